/-
  Parts by shares: what the laws say of them, in plain words.
-/
import Derived.Test.YteajjckbjgmhaaaM5
import Derived.Test.YteajjckbjgmhaaaM3
namespace Go.Proofs.Yteajjckbjgmhaaa

def sumR (X : List Rs) : Int := (X.map (·.2)).sum

theorem gt_snd {X : List Rs} {a : Nat} : gt (X.map (·.2)) a = (ge X a).2 := by
  simp only [gt, ge, List.getD_eq_getElem?_getD, List.getElem?_map]
  cases X[a]? <;> simp

theorem sumR_swp {X : List Rs} {j : Nat} (hj : j + 1 < X.length) : sumR (swp X j) = sumR X := by
  unfold sumR swp
  rw [List.map_set, List.map_set, sum_set (by simp; omega), sum_set (by simpa using hj), gt_set (by simpa using hj), if_neg (by omega), gt_snd, gt_snd]
  omega

theorem sumR_sift : ∀ (j : Nat) (X : List Rs), j < X.length → sumR (sift j X) = sumR X
  | 0, X, _ => rfl
  | j + 1, X, hj => by
    unfold sift
    split
    · rw [sumR_sift j _ (by rw [swp_length]; omega), sumR_swp hj]
    · rfl

theorem sumR_srt (L : List Rs) : ∀ k, k < L.length → sumR (srt L k) = sumR L
  | 0, _ => rfl
  | k + 1, hk => by
    show sumR (sift (k + 1) (srt L k)) = _
    rw [sumR_sift _ _ (by rw [srt_length]; exact hk), sumR_srt L k (by omega)]

theorem sumR_sorted (l : List Int) : sumR (sorted l) = l.sum := by
  have h1 : sumR (enumR l) = l.sum := by
    unfold sumR
    congr 1
    apply gt_ext' (by simp [enumR])
    intro i hi
    have hi' : i < l.length := by simpa [enumR] using hi
    rw [gt_snd, ge_enumR hi']
  unfold sorted
  rcases Nat.eq_zero_or_pos l.length with h | h
  · rw [h]; exact h1
  · rw [sumR_srt _ _ (by rw [enumR_length]; omega), h1]

theorem Sd.lt_pos {l : List Int} {S : List Rs} (sd : Sd l S) {a b : Nat} (ha : a < l.length) (hb : b < l.length) (h : lt (ge S a) (ge S b)) : a < b := by
  rcases Nat.lt_trichotomy a b with h1 | h1 | h1
  · exact h1
  · subst h1; exact absurd h lt_irrefl
  · have h2 := sd.s b a h1 ha
    rcases h with h | h <;> rcases h2 with h2 | h2 <;> omega

section
variable {total : Int} {sh : List Int}

/-- The parts. -/
def parts (total : Int) (sh : List Int) : List Int := addTo (qs total sh) (sorted (lost total sh)) (leftO total sh).toNat

theorem parts_length (total : Int) (sh : List Int) : (parts total sh).length = sh.length := by unfold parts; rw [addTo_length, qs_length]

theorem parts_sum (v : SV total sh) : (parts total sh).sum = total := by
  have q := v.q
  have := q.ln
  unfold parts
  rw [addTo_sum (sorted_ok (lost total sh)) (by rw [qs_length, lost_length]) _ (by rw [lost_length]; omega)]
  have h0 := q.l0
  unfold leftO at *
  omega

/-- Each one's place in the order, and what it comes to. -/
theorem parts_get (v : SV total sh) {i : Nat} (hi : i < sh.length) : ∃ p, p < sh.length ∧ ge (sorted (lost total sh)) p = ((i : Int), gt (lost total sh) i) ∧ gt (parts total sh) i = gt (qs total sh) i + if p < (leftO total sh).toNat then 1 else 0 := by
  have q := v.q
  have hln := q.ln
  obtain ⟨p, hp, he⟩ := (sorted_ok (lost total sh)).c.to i (by rw [lost_length]; exact hi)
  rw [lost_length] at hp
  exact ⟨p, hp, he, addTo_get (sorted_ok (lost total sh)) (by rw [qs_length, lost_length]) (by rw [lost_length]; exact hp) he _ (by rw [lost_length]; omega)⟩

/-- Who has one more had lost something. -/
theorem ext_pos (v : SV total sh) {i p : Nat} (hi : i < sh.length) (hp : p < sh.length) (he : ge (sorted (lost total sh)) p = ((i : Int), gt (lost total sh) i)) (hpt : p < (leftO total sh).toNat) : 0 < gt (lost total sh) i := by
  have q := v.q
  have sd := sorted_ok (lost total sh)
  rcases Int.lt_or_le 0 (gt (lost total sh) i) with h | h
  · exact h
  · exfalso
    have h0 : gt (lost total sh) i = 0 := by have := (q.q i hi).2.2.2.1; omega
    have hlen : (sorted (lost total sh)).length = sh.length := by rw [sd.c.len, lost_length]
    have hfr : ∀ a, a < sh.length → 0 ≤ (ge (sorted (lost total sh)) a).2 ∧ (ge (sorted (lost total sh)) a).2 < sh.sum := fun a ha => by
      obtain ⟨k, hk, e⟩ := sd.c.fr a (by rw [lost_length]; exact ha)
      rw [lost_length] at hk
      rw [e]
      exact ⟨(q.q k hk).2.2.2.1, (q.q k hk).2.2.2.2⟩
    have hz : ∀ a, p ≤ a → a < sh.length → (ge (sorted (lost total sh)) a).2 = 0 := fun a h1 h2 => by
      rcases Nat.eq_or_lt_of_le h1 with h3 | h3
      · rw [← h3, he]; exact h0
      · have := sd.s p a h3 (by rw [lost_length]; exact h2)
        rw [he] at this
        have h4 := (hfr a h2).1
        rcases this with h5 | h5
        · have h5' : (ge (sorted (lost total sh)) a).2 < gt (lost total sh) i := h5
          omega
        · have h5' : gt (lost total sh) i = (ge (sorted (lost total sh)) a).2 := h5.1
          omega
    obtain ⟨ys, hys⟩ : ∃ ys, (sorted (lost total sh)).map (·.2) = ys := ⟨_, rfl⟩
    have hyl : ys.length = sh.length := by rw [← hys]; simpa using hlen
    have hyg : ∀ a, gt ys a = (ge (sorted (lost total sh)) a).2 := fun a => by rw [← hys]; exact gt_snd
    have hsum : ys.sum = leftO total sh * sh.sum := by
      rw [q.left, ← hys]
      exact sumR_sorted (lost total sh)
    have hsplit : ys.sum = (ys.take p).sum + (ys.drop p).sum := by rw [← List.sum_append, List.take_append_drop]
    have hdrop : (ys.drop p).sum = 0 := by
      have e : ys.drop p = List.replicate (ys.length - p) 0 := by
        apply gt_ext' (by simp)
        intro k hk
        have hk' : p + k < ys.length := by simp at hk; omega
        have h1 := hz (p + k) (by omega) (by omega)
        rw [← hyg] at h1
        simp [gt, List.getD_eq_getElem?_getD] at h1 ⊢
        rw [h1]
        simp [List.getElem?_replicate]
        split <;> rfl
      rw [e]
      simp
    have hl0 := q.l0
    have hpos := v.pos
    rcases Nat.eq_zero_or_pos p with h1 | h1
    · subst h1
      simp at hsplit hdrop
      rw [hdrop] at hsum
      have : leftO total sh = 0 := by
        rcases Int.lt_or_eq_of_le hl0 with h2 | h2
        · have := Int.mul_pos h2 hpos; omega
        · exact h2.symm
      omega
    · have htl : (ys.take p).length = p := by simp; omega
      have h2 := sum_lt (xs := ys.take p) (S := sh.sum) (by omega) fun k hk => by
        have hk' : k < p := by omega
        have h3 := (hfr k (by omega)).2
        rw [← hyg] at h3
        simpa [gt, List.getD_eq_getElem?_getD, List.getElem?_take, hk'] using h3
      rw [htl] at h2
      have h3 : leftO total sh * sh.sum < (p : Int) * sh.sum := by omega
      have h4 := Int.lt_of_mul_lt_mul_right h3 (by omega)
      omega

theorem parts_whole (v : SV total sh) {i : Nat} (hi : i < sh.length) : total * gt sh i - sh.sum < gt (parts total sh) i * sh.sum ∧ gt (parts total sh) i * sh.sum < total * gt sh i + sh.sum ∧ 0 ≤ gt (parts total sh) i ∧ gt (parts total sh) i ≤ 4097 := by
  obtain ⟨p, hp, he, hg⟩ := parts_get v hi
  have q := v.q.q i hi
  have ht := v.t
  have hs := v.pos
  rw [hg]
  split
  · rename_i h
    have := ext_pos v hi hp he h
    rw [Int.add_mul, Int.one_mul]
    omega
  · rw [Int.add_zero]
    omega

theorem parts_order (v : SV total sh) {i k : Nat} (hi : i < sh.length) (hk : k < sh.length) (h : gt sh k < gt sh i ∨ gt sh i = gt sh k ∧ i < k) :
    gt (parts total sh) k ≤ gt (parts total sh) i ∧ (gt sh i = gt sh k → gt (parts total sh) i ≤ gt (parts total sh) k + 1) := by
  obtain ⟨p, hp, he, hg⟩ := parts_get v hi
  obtain ⟨r, hr, hf, hg'⟩ := parts_get v hk
  have qi := v.q.q i hi
  have qk := v.q.q k hk
  have ht := v.t
  have hs := v.pos
  have sd := sorted_ok (lost total sh)
  have hle : gt sh k ≤ gt sh i := by omega
  have hm := Int.mul_le_mul_of_nonneg_left hle ht.1
  have hq : gt (qs total sh) k ≤ gt (qs total sh) i := by
    rw [gt_qs hi, gt_qs hk]
    exact Int.ediv_le_ediv hs hm
  have hlt : lt (ge (sorted (lost total sh)) p) (ge (sorted (lost total sh)) r) → p < r := fun h1 => sd.lt_pos (by rw [lost_length]; exact hp) (by rw [lost_length]; exact hr) h1
  rw [he, hf] at hlt
  rw [hg, hg']
  rcases Int.lt_or_eq_of_le hq with h1 | h1
  · refine ⟨by split <;> split <;> omega, fun e => ?_⟩
    rw [gt_qs hi, gt_qs hk, e] at h1
    omega
  · rw [← h1] at qi ⊢
    rcases h with h | ⟨h, hik⟩
    · refine ⟨?_, fun e => by omega⟩
      rcases Int.lt_or_eq_of_le ht.1 with h2 | h2
      · have h3 : total * gt sh k < total * gt sh i := Int.mul_lt_mul_of_pos_left h h2
        have := hlt (.inl (show gt (lost total sh) k < gt (lost total sh) i by omega))
        split <;> split <;> omega
      · have hl : leftO total sh ≤ 0 := by
          have h4 := sum_nn (xs := qs total sh) fun j hj => (v.q.q j (by rw [← qs_length total sh]; exact hj)).1
          unfold leftO
          omega
        rw [if_neg (by omega), if_neg (by omega)]
        omega
    · rw [h] at qi
      have := hlt (.inr ⟨show gt (lost total sh) i = gt (lost total sh) k by omega, show (i : Int) < k by omega⟩)
      exact ⟨by split <;> split <;> omega, fun _ => by split <;> split <;> omega⟩

theorem parts_zero (v : SV total sh) {i : Nat} (hi : i < sh.length) (h : gt sh i = 0) : gt (parts total sh) i = 0 := by
  obtain ⟨p, hp, he, hg⟩ := parts_get v hi
  have hq : gt (qs total sh) i = 0 := by rw [gt_qs hi, h]; simp
  have hl : gt (lost total sh) i = 0 := by rw [gt_lost hi, h]; simp
  rw [hg, hq]
  split
  · rename_i h1
    have := ext_pos v hi hp he h1
    omega
  · rfl

theorem sum_one {xs : List Int} {i : Nat} (hi : i < xs.length) (h : ∀ j, j < xs.length → j ≠ i → gt xs j = 0) : xs.sum = gt xs i := by
  have e : xs = (List.replicate xs.length 0).set i (gt xs i) := by
    apply gt_ext' (by simp)
    intro j hj
    rw [gt_set (by simpa using hi)]
    split
    · rename_i e; rw [e]
    · rename_i e
      rw [h j hj e]
      simp [gt, List.getD_eq_getElem?_getD, hj]
  rw [e, sum_set (by simpa using hi), gt_set (by simpa using hi), if_pos rfl]
  simp [gt, List.getD_eq_getElem?_getD, hi]
end

theorem parts_exact {sh : List Int} {times : Int} (v : SV (sh.sum * times) sh) {i : Nat} (hi : i < sh.length) : gt (parts (sh.sum * times) sh) i = gt sh i * times := by
  obtain ⟨p, hp, he, hg⟩ := parts_get v hi
  have hs := v.pos
  have hm : ∀ j, sh.sum * times * gt sh j = sh.sum * (gt sh j * times) := fun j => by rw [Int.mul_assoc, Int.mul_comm times]
  have hl : ∀ j, j < sh.length → gt (lost (sh.sum * times) sh) j = 0 := fun j hj => by
    rw [gt_lost hj, hm, Int.mul_emod_right]
  have hq : gt (qs (sh.sum * times) sh) i = gt sh i * times := by
    rw [gt_qs hi, hm, Int.mul_ediv_cancel_left _ (by omega)]
  rw [hg, hq]
  split
  · rename_i h1
    have := ext_pos v hi hp he h1
    rw [hl i hi] at this
    omega
  · omega

/-! ### Shares that are taken so many times -/

def sc (t : Int) (X : List Rs) : List Rs := X.map fun e => (e.1, e.2 * t)

theorem ge_sc (t : Int) (X : List Rs) (a : Nat) : ge (sc t X) a = ((ge X a).1, (ge X a).2 * t) := by
  simp only [ge, sc, List.getD_eq_getElem?_getD, List.getElem?_map]
  cases X[a]? <;> simp

theorem sc_swp (t : Int) (X : List Rs) (j : Nat) : swp (sc t X) j = sc t (swp X j) := by
  unfold swp
  rw [ge_sc, ge_sc]
  simp [sc, List.map_set]

theorem sc_sift {t : Int} (ht : 0 < t) : ∀ (j : Nat) (X : List Rs), sift j (sc t X) = sc t (sift j X)
  | 0, X => rfl
  | j + 1, X => by
    unfold sift
    rw [ge_sc, ge_sc]
    by_cases h : (ge X j).2 < (ge X (j + 1)).2
    · rw [if_pos h, if_pos (Int.mul_lt_mul_of_pos_right h ht), sc_swp, sc_sift ht]
    · rw [if_neg h, if_neg (fun h' => h (Int.lt_of_mul_lt_mul_right h' (by omega)))]

theorem sc_srt {t : Int} (ht : 0 < t) (L : List Rs) : ∀ k, srt (sc t L) k = sc t (srt L k)
  | 0 => rfl
  | k + 1 => by
    show sift (k + 1) (srt (sc t L) k) = sc t (sift (k + 1) (srt L k))
    rw [sc_srt ht L k, sc_sift ht]

theorem sc_enum (t : Int) (l : List Int) : enumR (l.map (· * t)) = sc t (enumR l) := by
  unfold enumR sc
  rw [List.map_map, List.length_map]
  apply List.map_congr_left
  intro i hi
  have hi' := List.mem_range.1 hi
  simp [gt, List.getD_eq_getElem?_getD, List.getElem?_eq_getElem hi']

theorem addTo_sc (t : Int) (q : List Int) (S : List Rs) : ∀ k, addTo q (sc t S) k = addTo q S k
  | 0 => rfl
  | k + 1 => by
    simp only [addTo, addTo_sc t q S k, ge_sc]

theorem sum_scale (sh : List Int) (t : Int) : (sh.map (· * t)).sum = sh.sum * t := by
  induction sh with
  | nil => simp
  | cons x xs ih => simp only [List.map_cons, List.sum_cons, ih, Int.add_mul]

theorem spl_scale (total : Int) {sh : List Int} {t : Int} (ht : 1 ≤ t) (h1 : ∀ i, i < sh.length → 0 ≤ gt sh i ∧ gt sh i ≤ 10000 ∧ gt sh i * t ≤ 10000) : spl total (sh.map (· * t)) = spl total sh := by
  have hg : ∀ i, i < sh.length → gt (sh.map (· * t)) i = gt sh i * t := fun i hi => by
    simp [gt, List.getD_eq_getElem?_getD, List.getElem?_eq_getElem hi]
  have o1 : okS sh sh.length = true := okS_iff.2 fun i hi => ⟨(h1 i hi).1, (h1 i hi).2.1⟩
  have o2 : okS (sh.map (· * t)) (sh.map (· * t)).length = true := okS_iff.2 fun i hi => by
    have hi' : i < sh.length := by simpa using hi
    rw [hg i hi']
    exact ⟨Int.mul_nonneg (h1 i hi').1 (by omega), (h1 i hi').2.2⟩
  have hs0 := sum_nn fun i hi => (h1 i hi).1
  have hsum := sum_scale sh t
  have hz : (sh.map (· * t)).sum = 0 ↔ sh.sum = 0 := by
    rw [hsum]
    refine ⟨fun h => ?_, fun h => by rw [h]; simp⟩
    rcases Int.lt_or_eq_of_le hs0 with h2 | h2
    · have := Int.mul_pos h2 (show 0 < t by omega); omega
    · exact h2.symm
  unfold spl
  rw [List.length_map] at o2
  rw [List.length_map, o1, o2]
  by_cases c1 : total < 0 ∨ 4096 < total
  · rw [if_pos c1, if_pos c1]
  rw [if_neg c1, if_neg c1]
  by_cases c2 : 16 < sh.length
  · rw [if_pos c2, if_pos c2]
  rw [if_neg c2, if_neg c2]
  simp only [Bool.true_eq_false, if_false]
  by_cases c3 : sh.sum = 0
  · rw [if_pos c3, if_pos (hz.2 c3)]
  rw [if_neg c3, if_neg (fun h => c3 (hz.1 h))]
  have hq : qs total (sh.map (· * t)) = qs total sh := by
    unfold qs
    rw [List.map_map, hsum]
    apply List.map_congr_left
    intro s _
    show total * (s * t) / (sh.sum * t) = _
    rw [← Int.mul_assoc, Int.mul_ediv_mul_of_pos_left _ _ (by omega)]
  have hl : lost total (sh.map (· * t)) = (lost total sh).map (· * t) := by
    unfold lost
    rw [List.map_map, List.map_map, hsum]
    apply List.map_congr_left
    intro s _
    show total * (s * t) % (sh.sum * t) = total * s % sh.sum * t
    rw [← Int.mul_assoc, Int.emod_def, Int.emod_def, Int.mul_ediv_mul_of_pos_left _ _ (by omega), Int.sub_mul, Int.mul_right_comm sh.sum t]
  have hso : sorted ((lost total sh).map (· * t)) = sc t (sorted (lost total sh)) := by
    unfold sorted
    rw [sc_enum, List.length_map, sc_srt (by omega)]
  have hleft : leftO total (sh.map (· * t)) = leftO total sh := by unfold leftO; rw [hq]
  rw [hq, hl, hso, addTo_sc, hleft]

end Go.Proofs.Yteajjckbjgmhaaa
