/-
  The sorted list of a heap's items is the list in order; plain Lean.
-/
import Derived.Test.YtfbmbjfcgoahfaaS1
namespace Go.Proofs.Ytfbmbjfcgoahfaa
open Go Go.AM
set_option linter.unusedVariables false
set_option linter.unusedSimpArgs false

theorem sorted_uni : ∀ {l l' : List TItem}, Sorted l → Sorted l' → (∀ y, y ∈ l ↔ y ∈ l') → l = l'
  | [], [], _, _, _ => rfl
  | [], b :: l', _, _, h => by have := (h b).2 (List.mem_cons_self ..); cases this
  | a :: l, [], _, _, h => by have := (h a).1 (List.mem_cons_self ..); cases this
  | a :: l, b :: l', h1, h2, h => by
    unfold Sorted at h1 h2
    rw [List.pairwise_cons] at h1 h2
    have e : a = b := by
      rcases List.mem_cons.1 ((h a).1 (List.mem_cons_self ..)) with e | ha
      · exact e
      · rcases List.mem_cons.1 ((h b).2 (List.mem_cons_self ..)) with e | hb
        · exact e.symm
        · have q1 := h1.1 b hb
          have q2 := h2.1 a ha
          rw [goes_t] at q1 q2
          omega
    subst e
    have hno : ∀ {m : List TItem}, (∀ y, y ∈ m → goesB a y = true) → a ∉ m := fun hm ha => by
      have := hm a ha
      rw [goes_t] at this
      omega
    rw [sorted_uni h1.2 h2.2 fun y => by
      constructor
      · intro hy
        rcases List.mem_cons.1 ((h y).1 (List.mem_cons_of_mem _ hy)) with rfl | hy'
        · exact absurd hy (hno h1.1)
        · exact hy'
      · intro hy
        rcases List.mem_cons.1 ((h y).2 (List.mem_cons_of_mem _ hy)) with rfl | hy'
        · exact absurd hy (hno h2.1)
        · exact hy']


theorem swo_goes : Sort.SWO goesB := by
  refine ⟨fun x => ?_, fun x y z h1 h2 => goes_trans h1 h2, fun x y z h1 h2 => ?_⟩
  · rw [goes_f]; omega
  · rw [goes_f] at *; omega

/-- What the program's comparison hands back. -/
def cmpI (x y : TItem) : Int := if goesB x y = true then -1 else 1
theorem ltC_cmp : ltC cmpI = goesB := by
  funext x y
  unfold ltC cmpI
  cases goesB x y <;> simp

theorem sort_list (xs l : List TItem) (hi : ∀ i j : Nat, ∀ x y, xs[i]? = some x → xs[j]? = some y → x.iD = y.iD → i = j) (hm : ∀ x, x ∈ xs ↔ x ∈ l) (hs : Sorted l) : (Sort.sort goesB xs.toArray).toList = l := by
  obtain ⟨P, S⟩ := Sort.sort_sorts goesB swo_goes xs.toArray
  generalize Sort.sort goesB xs.toArray = d at *
  obtain ⟨h1, h2, h3⟩ := P
  have p : d.toList.Perm xs := by
    have e1 : d.extract 0 xs.toArray.size = d := by rw [← h1]; exact Array.extract_size
    have e2 : xs.toArray.extract 0 xs.toArray.size = xs.toArray := Array.extract_size
    rw [e1, e2] at h3
    exact h3
  have hnd : (xs.map (·.iD)).Nodup := by
    rw [List.nodup_iff_pairwise_ne, List.pairwise_map, List.pairwise_iff_getElem]
    intro i j hi' hj' hij e
    have := hi i j xs[i] xs[j] (List.getElem?_eq_getElem _) (List.getElem?_eq_getElem _) e
    omega
  have hnd2 : (d.toList.map (·.iD)).Nodup := (p.map _).nodup_iff.2 hnd
  have hsd : Sorted d.toList := by
    unfold Sorted
    rw [List.pairwise_iff_getElem]
    intro i j hi' hj' hij
    have hjs : j < d.size := by simpa using hj'
    have q := S i j (Nat.zero_le _) hij (by rw [← h1]; exact hjs)
    have ei : d[i]! = d.toList[i] := by rw [getElem!_pos d i (by omega)]; simp
    have ej : d[j]! = d.toList[j] := by rw [getElem!_pos d j hjs]; simp
    rw [ei, ej] at q
    refine goes_ne q fun e => ?_
    rw [List.nodup_iff_pairwise_ne, List.pairwise_map, List.pairwise_iff_getElem] at hnd2
    exact hnd2 i j hi' hj' hij e.symm
  exact sorted_uni hsd hs fun y => (p.mem_iff).trans (hm y)

theorem sort_view {s : HS} {l : List TItem} (v : View s l) : (Sort.sort (ltC cmpI) (s.xs.take s.n).toArray).toList = l := by
  rw [ltC_cmp]
  have hle := v.g.le
  have get : ∀ (i : Nat) x, (s.xs.take s.n)[i]? = some x → i < s.n ∧ it s i = x := by
    intro i x h
    rw [List.getElem?_take] at h
    split at h
    · rename_i hi; exact ⟨hi, it_of h⟩
    · cases h
  refine sort_list _ _ (fun i j x y hx hy e => ?_) (fun x => ?_) v.srt
  · obtain ⟨a1, a2⟩ := get i x hx
    obtain ⟨b1, b2⟩ := get j y hy
    exact v.g.inj a1 b1 (by rw [a2, b2, e])
  · rw [← v.mem]
    constructor
    · intro h
      obtain ⟨i, hi⟩ := List.getElem?_of_mem h
      obtain ⟨a1, a2⟩ := get i x hi
      exact ⟨i, a1, a2⟩
    · rintro ⟨i, h1, h2⟩
      refine List.mem_of_getElem? (i := i) ?_
      rw [List.getElem?_take, if_pos h1, it_get (by omega), h2]

end Go.Proofs.Ytfbmbjfcgoahfaa
