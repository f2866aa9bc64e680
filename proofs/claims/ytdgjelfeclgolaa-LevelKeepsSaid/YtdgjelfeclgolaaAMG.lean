/-
  AM, merged: 53.
-/
import Derived.Test.YtdgjelfeclgolaaAMF

section
set_option linter.unusedVariables false
namespace Go.AM
open Go

theorem Can.ren {n0 : Nat} {s : St} {tm tm' : List AVal} {hp hp' : Heap} {nx nx' : Nat} (f : Nat → Nat) (hinj : ∀ i j, i ∈ hp.map (·.1) → j ∈ hp.map (·.1) → f i = f j → i = j) (htm : ∀ x, x ∈ tm → LfA (fun i => i ∈ hp.map (·.1)) x)
    (hob : ∀ e, e ∈ hp → LfO (fun i => i ∈ hp.map (·.1)) e.2) (hlow : ∀ i, i ∈ hp.map (·.1) → (i < n0 ∨ f i < n0) → f i = i) (hnx : ∀ i, i ∈ hp.map (·.1) → f i < nx') (hn0 : n0 ≤ nx')
    (e1 : tm.map (renA f) = tm') (e2 : renH f hp = hp') (h : Can n0 ⟨tm', hp', nx'⟩ s) : Can n0 ⟨tm, hp, nx⟩ s := by
  subst e1 e2
  intro ext β a w i
  let K : List Nat := hp.map (·.1)
  let fnd : Nat → Option Nat := fun id => K.find? fun i => decide (f i = id)
  have hfnd : ∀ i, i ∈ K → fnd (f i) = some i := fun i hi => by
    have h1 : (K.find? fun j => decide (f j = f i)).isSome = true := by rw [List.find?_isSome]; exact ⟨i, hi, by simp⟩
    obtain ⟨j, hj⟩ := Option.isSome_iff_exists.1 h1
    have h2 := List.find?_some hj
    have h3 := hinj j i (List.mem_of_find?_eq_some hj) hi (by simpa using h2)
    show K.find? _ = some i
    rw [hj, h3]
  let β' : Nat → Option Nat := fun id => match fnd id with | some i => β i | none => none
  have hβ : ∀ i, i ∈ K → β' (f i) = β i := fun i hi => by show (match fnd (f i) with | some i => β i | none => none) = _; rw [hfnd i hi]
  have hmem : ∀ {j : Nat} {o : Ob}, lk hp j = some o → j ∈ K := fun h => List.mem_map.2 ⟨_, lk_mem h, rfl⟩
  have hlk : ∀ i, i ∈ K → lk (renH f hp) (f i) = (lk hp i).map (renO f) := fun i hi => lk_renH (K := fun i => i ∈ K) hinj hi fun e he => List.mem_map.2 ⟨e, he, rfl⟩
  have hsplit : ∀ {id : Nat} {o : Ob}, lk (renH f hp) id = some o → ∃ i o', i ∈ K ∧ id = f i ∧ lk hp i = some o' ∧ o = renO f o' := fun {id o} ho => by
    by_cases hx : ∃ i, i ∈ K ∧ f i = id
    · obtain ⟨i, hi, rfl⟩ := hx
      rw [hlk i hi] at ho
      obtain ⟨o', ho'⟩ := lk_some_of hi
      rw [ho'] at ho
      injection ho with ho
      exact ⟨i, o', hi, rfl, ho', ho.symm⟩
    · rw [lk_renH_none fun e he e' => hx ⟨e.1, List.mem_map.2 ⟨e, he, rfl⟩, e'⟩] at ho
      cases ho
  have hown : ∀ b, owns β hp b ↔ owns β' (renH f hp) b := fun b => by
    constructor
    · rintro ⟨j, o, h1, h2⟩
      exact ⟨f j, renO f o, by rw [hlk j (hmem h1), h1]; rfl, by rw [hβ j (hmem h1)]; exact h2⟩
    · rintro ⟨id, o, h1, h2⟩
      obtain ⟨i, o', hi, rfl, h3, _⟩ := hsplit h1
      rw [hβ i hi] at h2
      exact ⟨i, o', h3, h2⟩
  have R : Ren f (fun i => i ∈ K) (cx ext β hp w) (cx ext β' (renH f hp) w) := ⟨rfl, fun b => or_congr Iff.rfl (hown b), hlk, fun i hi => (hβ i hi).symm⟩
  have hin : HIn ext β' (Lt nx') (renH f hp) w := by
    refine ⟨fun id o ho => ?_, fun id o ho => ?_, fun id id' o o' b h1 h2 h3 h4 => ?_, fun b hb => ?_⟩
    · obtain ⟨j, o', hj, rfl, h3, rfl⟩ := hsplit ho
      exact R.obUp hj (hob _ (lk_mem h3)) (i.heap.ob _ _ h3)
    · obtain ⟨j, o', hj, rfl, h3, rfl⟩ := hsplit ho
      exact ⟨hnx j hj, renO_nm (p := Lt nx') hnx (hob _ (lk_mem h3))⟩
    · obtain ⟨j, q, hj, rfl, h5, rfl⟩ := hsplit h1
      obtain ⟨j', q', hj', rfl, h6, rfl⟩ := hsplit h2
      rw [hβ j hj] at h3
      rw [hβ j' hj'] at h4
      rw [i.heap.inj j j' q q' b h5 h6 h3 h4]
    · exact ⟨(i.heap.ext b hb).1, fun h1 => (i.heap.ext b hb).2 ((hown b).2 h1)⟩
  have i2 : SIn n0 ext β' ⟨tm.map (renA f), renH f hp, nx'⟩ a w := by
    refine ⟨hin, by rw [i.size]; simp, fun k y v hy hv => ?_, fun y hy => ?_, i.defers, fun j hj => Nat.lt_of_lt_of_le hj hn0⟩
    · have hy : (tm.map (renA f))[k]? = some y := hy
      rw [List.getElem?_map] at hy
      cases hx : tm[k]? with
      | none => rw [hx] at hy; cases hy
      | some x =>
        rw [hx] at hy
        injection hy with hy
        subst hy
        exact R.upA (htm x (List.mem_of_getElem? hx)) (i.rel k x v hx hv)
    · obtain ⟨x, hx, rfl⟩ := List.mem_map.1 hy
      exact renA_leaf (p := Lt nx') hnx (htm x hx)
  have g : Goes n0 ext β hp w β' (renH f hp) w := by
    refine ⟨⟨Nat.le_refl _, fun _ _ _ => rfl, fun b _ h1 => (hown b).2 h1, fun _ _ h => h, rfl, rfl, rfl⟩, ⟨fun b o v h1 h2 => ⟨fun h3 => h1 (h3.imp (fun h => h) fun h => (hown b).2 h), h2⟩, fun _ _ h => h, fun id hid esz rows hr => ?_, fun id hid es hr => ?_⟩⟩
    · obtain ⟨j, q, hj, rfl, h5, e⟩ := hsplit (show lk (renH f hp) id = some _ from hr)
      have hj2 := hlow j hj (.inr hid)
      cases q with
      | mp m => simp [renO] at e
      | arr esz1 rows1 =>
        simp only [renO, Ob.arr.injEq] at e
        obtain ⟨rfl, rfl⟩ := e
        refine ⟨rows1, ?_, by simp, fun _ => ?_⟩
        · show lk hp (f j) = _
          rw [hj2]; exact h5
        · show β' (f j) = β (f j)
          rw [hβ j hj, hj2]
    · obtain ⟨j, q, hj, rfl, h5, e⟩ := hsplit (show lk (renH f hp) id = some _ from hr)
      have hj2 := hlow j hj (.inr hid)
      cases q with
      | arr _ _ => simp [renO] at e
      | mp m =>
        simp only [renO, Ob.mp.injEq] at e
        subst e
        refine ⟨es, ?_, ?_⟩
        · show lk hp (f j) = _
          rw [hj2]; exact h5
        · show β' (f j) = β (f j)
          rw [hβ j hj, hj2]
  obtain ⟨β3, i3, g3⟩ := h ext β' a w i2
  exact ⟨β3, i3, g.trans g3⟩

theorem lfA_sl {α : Type} [Enc α] (S : Nat → Prop) (l : List α) (lim : Option Nat) : LfA S (.sl (rws l) lim) := .leaf _ (.fz _ (.sl _ _ (rws_mem l)))
theorem lfA_junk (S : Nat → Prop) : LfA S .junk := .leaf _ (.fz _ .junk)
theorem lf_junk (S : Nat → Prop) : Lf S .junk ↔ True := ⟨fun _ => trivial, fun _ => .fz _ .junk⟩
/-- A state at a loop's head: which values it may hold. -/
theorem lfL_cons {S : Nat → Prop} {x : AVal} {xs : List AVal} (h1 : LfA S x) (h2 : ∀ y, y ∈ xs → LfA S y) : ∀ y, y ∈ x :: xs → LfA S y := fun y hy => by
  rcases List.mem_cons.1 hy with rfl | hy
  · exact h1
  · exact h2 y hy
theorem lfL_nil {S : Nat → Prop} : ∀ y, y ∈ ([] : List AVal) → LfA S y := fun y hy => (nomatch hy)
/-- Slots and objects are given up, then the objects are counted by other numbers; the slots stay. -/
theorem Can.renW {n0 : Nat} {s : St} {tm : List AVal} {hp hp' : Heap} {nx nx' : Nat} (f : Nat → Nat) (w : Weak n0 s ⟨tm, hp, nx⟩) (hinj : ∀ i j, i ∈ hp.map (·.1) → j ∈ hp.map (·.1) → f i = f j → i = j) (htm : ∀ x, x ∈ tm → LfA (fun i => i ∈ hp.map (·.1)) x)
    (hob : ∀ e, e ∈ hp → LfO (fun i => i ∈ hp.map (·.1)) e.2) (hlow : ∀ i, i ∈ hp.map (·.1) → (i < n0 ∨ f i < n0) → f i = i) (hnx : ∀ i, i ∈ hp.map (·.1) → f i < nx') (hn0 : n0 ≤ nx')
    (e1 : tm.map (renA f) = tm) (e2 : renH f hp = hp') : Can n0 s ⟨tm, hp', nx'⟩ :=
  Can.trans (Can.ofWeak w) (Can.ren f hinj htm hob hlow hnx hn0 e1 e2 (Can.refl _))

theorem lfS {S : Nat → Prop} {xs : List AVal} (h : ∀ x, x ∈ xs → LfA S x := by
    first
      | ((try simp only [msk_none, msk_some, msk_nil]); (repeat' first | exact lfL_nil | refine lfL_cons ?_ ?_ | exact lfA_junk _ | exact lfA_sl _ _ _ | exact .leaf _ (.fz _ (.int _ _)) | exact .leaf _ (.fz _ (.bool _)) | exact .leaf _ (.fz _ (.str _)) | exact .leaf _ (.fz _ .nilp) | exact .leaf _ ((lf_nil _ _).2 trivial) | exact .leaf _ (.ref _ _ _ _ _ _ (by simp)) | exact .leaf _ (.ptr _ _ _ _ (by simp)) | exact .leaf _ (.mapv _ (by simp)) | (refine lfA_tup _ _ ?_; simp [lf_ref, lf_ptr, lf_int, lf_bool, lf_str, lf_rws, lf_nil, lf_aggE]; done)); done)
      | fail) : ∀ x, x ∈ xs → LfA S x := h
theorem reS {f : Nat → Nat} {xs : List AVal} (h : xs.map (renA f) = xs := by first | rfl | ((try simp only [msk_none, msk_some, msk_nil]); rfl) | fail) : xs.map (renA f) = xs := h
end Go.AM
end
