/-
  Parts by shares: quotas, what is lost, what is left over: plain laws.
-/
import Derived.Test.YteajjckbjgmhaaaM4
namespace Go.Proofs.Yteajjckbjgmhaaa
open Go Go.AM

def fr (e : Rs) : List AVal := [.int .i64 e.1, .int .i64 e.2]
theorem fr_fz (b : Rs) (x : AVal) (hx : x ∈ fr b) : Fz x := by
  simp [fr] at hx
  rcases hx with rfl | rfl <;> exact .int _ _
theorem fr_all (bs : List Rs) : (∀ r, r ∈ rf fr bs → r.length = 2) = True := rf_all fr 2 (fun _ => rfl) bs
theorem fr_onm (p : Nat → Prop) (esz : Nat) (xs : List Rs) : (Ob.arr esz (rf fr xs)).nm p ↔ True := ⟨fun _ => trivial, fun _ r hr x hx => by
  simp only [rf, List.mem_map] at hr
  obtain ⟨a, _, rfl⟩ := hr
  exact Fz.nm (fr_fz a x hx) p⟩
theorem fr_rep (n : Nat) : List.replicate n [AVal.int .i64 0, AVal.int .i64 0] = rf fr (List.replicate n (0, 0)) := by simp [rf, fr]
theorem fr_get {X : List Rs} {a : Nat} (h : a < X.length) : (rf fr X)[a]? = some [.int .i64 (ge X a).1, .int .i64 (ge X a).2] := by
  have := rf_get fr (List.getElem?_eq_getElem h)
  simpa [fr, ge, List.getD_eq_getElem?_getD, List.getElem?_eq_getElem h] using this
theorem fr_set (X : List Rs) (a : Nat) (x y : Int) : (rf fr X).set a [.int .i64 x, .int .i64 y] = rf fr (X.set a (x, y)) := by
  simp [rf, fr, List.map_set]

/-- So many are there, the others are naught. -/
def partR (xs : List Rs) (i : Nat) : List Rs := xs.take i ++ List.replicate (xs.length - i) (0, 0)
theorem partR_length {xs : List Rs} {i : Nat} (h : i ≤ xs.length) : (partR xs i).length = xs.length := by simp [partR]; omega
theorem partR_zero (xs : List Rs) : partR xs 0 = List.replicate xs.length (0, 0) := by simp [partR]
theorem partR_all (xs : List Rs) : partR xs xs.length = xs := by simp [partR]
theorem partR_set {xs : List Rs} {i : Nat} (h : i < xs.length) : (partR xs i).set i (ge xs i) = partR xs (i + 1) := by
  unfold partR
  rw [List.set_append_right _ _ (by simp; omega)]
  have e1 : i - (List.take i xs).length = 0 := by simp; omega
  rw [e1]
  obtain ⟨k, hk⟩ : ∃ k, xs.length - i = k + 1 := ⟨xs.length - i - 1, by omega⟩
  rw [hk, List.replicate_succ, List.set_cons_zero, List.take_succ_eq_append_getElem h, List.append_assoc]
  have e2 : xs.length - (i + 1) = k := by omega
  rw [e2]
  simp [ge, List.getD_eq_getElem?_getD, List.getElem?_eq_getElem h]

def qs (total : Int) (sh : List Int) : List Int := sh.map fun s => total * s / sh.sum
def lost (total : Int) (sh : List Int) : List Int := sh.map fun s => total * s % sh.sum
def leftO (total : Int) (sh : List Int) : Int := total - (qs total sh).sum
def okS (sh : List Int) (n : Nat) : Bool := (List.range n).all fun i => decide (0 ≤ gt sh i) && decide (gt sh i ≤ 10000)

theorem okS_iff {sh : List Int} {n : Nat} : okS sh n = true ↔ ∀ i, i < n → 0 ≤ gt sh i ∧ gt sh i ≤ 10000 := by
  unfold okS
  rw [List.all_eq_true]
  refine ⟨fun h i hi => ?_, fun h i hi => ?_⟩
  · have := h i (List.mem_range.2 hi)
    simp only [Bool.and_eq_true, decide_eq_true_eq] at this
    omega
  · have := h i (List.mem_range.1 hi)
    simp only [Bool.and_eq_true, decide_eq_true_eq]
    omega

theorem okS_succ (sh : List Int) (i : Nat) : okS sh (i + 1) = true ↔ okS sh i = true ∧ (0 ≤ gt sh i ∧ gt sh i ≤ 10000) := by
  rw [okS_iff, okS_iff]
  refine ⟨fun h => ⟨fun j hj => h j (by omega), h i (by omega)⟩, fun h j hj => ?_⟩
  rcases Nat.lt_or_ge j i with h1 | h1
  · exact h.1 j h1
  · rw [show j = i by omega]; exact h.2

theorem okS_false {sh : List Int} {i n : Nat} (hi : i < n) (hc : ¬ (0 ≤ gt sh i ∧ gt sh i ≤ 10000)) : okS sh n = false := by
  cases e : okS sh n with
  | false => rfl
  | true => exact absurd (okS_iff.1 e i hi) hc

/-- What Split answers. -/
def spl (total : Int) (sh : List Int) : List Int × Int :=
  if total < 0 ∨ 4096 < total then ([], 1) else if 16 < sh.length then ([], 3) else if okS sh sh.length = false then ([], 8) else if sh.sum = 0 then ([], 6) else
    (addTo (qs total sh) (sorted (lost total sh)) (leftO total sh).toNat, 0)

/-- What Split lets in. -/
structure SV (total : Int) (sh : List Int) : Prop where
  t : 0 ≤ total ∧ total ≤ 4096
  n : sh.length ≤ 16
  ok : ∀ i, i < sh.length → 0 ≤ gt sh i ∧ gt sh i ≤ 10000
  pos : 0 < sh.sum

theorem sum_nn {xs : List Int} (h : ∀ i, i < xs.length → 0 ≤ gt xs i) : 0 ≤ xs.sum := by
  induction xs with
  | nil => simp
  | cons x xs ih =>
    have h0 := h 0 (by simp)
    have h1 := ih fun i hi => by have := h (i + 1) (by simpa using hi); simpa [gt] using this
    simp [gt] at h0
    simp only [List.sum_cons]
    omega

theorem spl_cases (total : Int) (sh : List Int) : (∃ e, e ≠ 0 ∧ spl total sh = ([], e)) ∨ (SV total sh ∧ spl total sh = (addTo (qs total sh) (sorted (lost total sh)) (leftO total sh).toNat, 0)) := by
  unfold spl
  by_cases h1 : total < 0 ∨ 4096 < total
  · rw [if_pos h1]; exact .inl ⟨1, by omega, rfl⟩
  rw [if_neg h1]
  by_cases h2 : 16 < sh.length
  · rw [if_pos h2]; exact .inl ⟨3, by omega, rfl⟩
  rw [if_neg h2]
  by_cases h3 : okS sh sh.length = false
  · rw [if_pos h3]; exact .inl ⟨8, by omega, rfl⟩
  rw [if_neg h3]
  by_cases h4 : sh.sum = 0
  · rw [if_pos h4]; exact .inl ⟨6, by omega, rfl⟩
  rw [if_neg h4]
  have hok := okS_iff.1 (by simpa using h3 : okS sh sh.length = true)
  have := sum_nn fun i hi => (hok i hi).1
  exact .inr ⟨⟨by omega, by omega, hok, by omega⟩, rfl⟩

theorem qs_length (total : Int) (sh : List Int) : (qs total sh).length = sh.length := by simp [qs]
theorem lost_length (total : Int) (sh : List Int) : (lost total sh).length = sh.length := by simp [lost]

theorem gt_qs {total : Int} {sh : List Int} {i : Nat} (hi : i < sh.length) : gt (qs total sh) i = total * gt sh i / sh.sum := by
  simp [qs, gt, List.getD_eq_getElem?_getD, List.getElem?_eq_getElem hi]
theorem gt_lost {total : Int} {sh : List Int} {i : Nat} (hi : i < sh.length) : gt (lost total sh) i = total * gt sh i % sh.sum := by
  simp [lost, gt, List.getD_eq_getElem?_getD, List.getElem?_eq_getElem hi]

theorem quota_sum (total S : Int) (sh : List Int) : (sh.map fun s => total * s / S).sum * S + (sh.map fun s => total * s % S).sum = total * sh.sum := by
  induction sh with
  | nil => simp
  | cons x xs ih =>
    have h := Int.mul_ediv_add_emod (total * x) S
    simp only [List.map_cons, List.sum_cons]
    rw [Int.add_mul, Int.mul_add]
    rw [Int.mul_comm S] at h
    omega

theorem sum_lt {xs : List Int} {S : Int} (hne : 0 < xs.length) (h : ∀ i, i < xs.length → gt xs i < S) : xs.sum < xs.length * S := by
  induction xs with
  | nil => simp at hne
  | cons x xs ih =>
    have h0 := h 0 (by simp)
    simp [gt] at h0
    rcases Nat.eq_zero_or_pos xs.length with h1 | h1
    · have e : xs = [] := List.length_eq_zero_iff.1 h1
      subst e
      simp
      exact h0
    · have h2 := ih h1 fun i hi => by have := h (i + 1) (by simpa using hi); simpa [gt] using this
      simp only [List.sum_cons, List.length_cons]
      rw [Int.natCast_add, Int.add_mul]
      omega

theorem gt_le_sum {xs : List Int} (h : ∀ i, i < xs.length → 0 ≤ gt xs i) {i : Nat} (hi : i < xs.length) : gt xs i ≤ xs.sum := by
  induction xs generalizing i with
  | nil => simp at hi
  | cons x xs ih =>
    have h0 := h 0 (by simp)
    simp [gt] at h0
    have h1 : ∀ i, i < xs.length → 0 ≤ gt xs i := fun i hi => by have := h (i + 1) (by simpa using hi); simpa [gt] using this
    have h2 := sum_nn h1
    cases i with
    | zero => simp [gt]; omega
    | succ i =>
      have := ih h1 (by simpa using hi)
      simp only [List.sum_cons, gt, List.getD_cons_succ] at this ⊢
      omega

/-- What is known of the quotas. -/
structure SQ (total : Int) (sh : List Int) : Prop where
  q : ∀ i, i < sh.length → 0 ≤ gt (qs total sh) i ∧ gt (qs total sh) i ≤ total ∧ gt (qs total sh) i * sh.sum + gt (lost total sh) i = total * gt sh i ∧ 0 ≤ gt (lost total sh) i ∧ gt (lost total sh) i < sh.sum
  left : leftO total sh * sh.sum = (lost total sh).sum
  l0 : 0 ≤ leftO total sh
  ln : leftO total sh < sh.length
  ne : 0 < sh.length

theorem SV.q {total : Int} {sh : List Int} (v : SV total sh) : SQ total sh := by
  have hp := v.pos
  have hne : 0 < sh.length := by
    rcases Nat.eq_zero_or_pos sh.length with h | h
    · have e : sh = [] := List.length_eq_zero_iff.1 h
      subst e
      simp at hp
    · exact h
  have hq : ∀ i, i < sh.length → 0 ≤ gt (qs total sh) i ∧ gt (qs total sh) i ≤ total ∧ gt (qs total sh) i * sh.sum + gt (lost total sh) i = total * gt sh i ∧ 0 ≤ gt (lost total sh) i ∧ gt (lost total sh) i < sh.sum := fun i hi => by
    rw [gt_qs hi, gt_lost hi]
    have h0 := v.ok i hi
    have hm := Int.mul_nonneg v.t.1 h0.1
    have hle := gt_le_sum (fun i hi => (v.ok i hi).1) hi
    have hd := Int.mul_ediv_add_emod (total * gt sh i) sh.sum
    rw [Int.mul_comm sh.sum] at hd
    refine ⟨Int.ediv_nonneg hm (by omega), ?_, hd, Int.emod_nonneg _ (by omega), Int.emod_lt_of_pos _ hp⟩
    have h1 := Int.mul_le_mul_of_nonneg_left hle v.t.1
    have h2 := Int.ediv_le_ediv hp h1
    rw [Int.mul_ediv_cancel _ (by omega)] at h2
    exact h2
  have hl : leftO total sh * sh.sum = (lost total sh).sum := by
    have := quota_sum total sh.sum sh
    unfold leftO qs lost
    rw [Int.sub_mul]
    omega
  have hs0 := sum_nn (xs := lost total sh) fun i hi => (hq i (by rw [← lost_length total sh]; exact hi)).2.2.2.1
  have hs1 := sum_lt (xs := lost total sh) (S := sh.sum) (by rw [lost_length]; exact hne) fun i hi => (hq i (by rw [← lost_length total sh]; exact hi)).2.2.2.2
  rw [← hl] at hs0 hs1
  rw [lost_length] at hs1
  refine ⟨hq, hl, ?_, Int.lt_of_mul_lt_mul_right hs1 (by omega), hne⟩
  rcases Int.lt_or_le (leftO total sh) 0 with h | h
  · have := Int.mul_neg_of_neg_of_pos h hp
    omega
  · exact h

end Go.Proofs.Yteajjckbjgmhaaa
