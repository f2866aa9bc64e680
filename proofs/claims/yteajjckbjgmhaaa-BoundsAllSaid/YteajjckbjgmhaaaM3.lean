/-
  A level that wants more; what is lent: plain laws.
-/
import Derived.Test.YteajjckbjgmhaaaM2
namespace Go.Proofs.Yteajjckbjgmhaaa

theorem gt_ext' {xs ys : List Int} (hl : xs.length = ys.length) (h : ∀ i, i < xs.length → gt xs i = gt ys i) : xs = ys := by
  apply List.ext_getElem hl
  intro i h1 h2
  have := h i h1
  simpa [gt, List.getD_eq_getElem?_getD, List.getElem?_eq_getElem h1, List.getElem?_eq_getElem h2] using this

theorem borrow_more {total : Int} {lo h w w' : List Int} {k : Nat} (v : Val total lo h w) (v' : Val total lo h w') (hk : k < lo.length) (hne : ∀ i, i ≠ k → gt w' i = gt w i) (hge : gt w k ≤ gt w' k) :
    gt (run lo h w (total - lo.sum).toNat) k ≤ gt (run lo h w' (total - lo.sum).toNat) k := by
  rcases Int.lt_or_le (gt w k) (gt w' k) with hlt | hle
  · have vl := v.lo
    have r := way_run v (total - lo.sum).toNat (by omega)
    have r' := way_run v' (total - lo.sum).toNat (by omega)
    generalize run lo h w (total - lo.sum).toNat = x at *
    generalize run lo h w' (total - lo.sum).toNat = y at *
    rcases Int.lt_or_le (gt y k) (gt x k) with hc | hc
    · exfalso
      by_cases hex : ∃ j, j < lo.length ∧ gt x j < gt y j
      · obtain ⟨j, hj, hjl⟩ := hex
        have hjk : j ≠ k := fun e => by subst e; omega
        have a1 := r.le k hk
        have a2 := r.le j hj
        have b1 := r'.le k hk
        have b2 := r'.le j hj
        have o1 := v.ok k hk
        have o2 := v.ok j hj
        have o3 := v'.ok k hk
        have f1 := r.fair k j hk hj (by omega) (by omega)
        have f2 := r'.fair j k hj hk (by omega) (by omega)
        rw [hne j hjk] at f2
        have c1 := Int.mul_le_mul_of_nonneg_right (show gt x j + 1 ≤ gt y j by omega) (show 0 ≤ gt w' k + 1 by omega)
        have c2 := Int.mul_le_mul_of_nonneg_right (show gt y k + 1 ≤ gt x k by omega) (show 0 ≤ gt w j + 1 by omega)
        have c3 : (gt x j + 1) * (gt w' k + 1) ≤ (gt x j + 1) * (gt w k + 1) := by omega
        have c4 := Int.le_of_mul_le_mul_left c3 (by omega)
        omega
      · have hall : ∀ i, i < y.length → gt y i ≤ gt x i := fun i hi => by
          rcases Int.lt_or_le (gt x i) (gt y i) with h1 | h1
          · exact absurd ⟨i, by rw [← r'.len]; exact hi, h1⟩ hex
          · exact h1
        have := sum_eq (by rw [r.len, r'.len]) hall (by rw [r.sum, r'.sum])
        rw [this] at hc
        omega
    · exact hc
  · have e : w' = w := gt_ext' (by rw [← v.lw, ← v'.lw]) fun i _ => by
      by_cases hi : i = k
      · subst hi; omega
      · exact hne i hi
    rw [e]
    exact Int.le_refl _

/-- What is lent, and borrowed, up to a place. -/
def lentTo (ns ls : List Int) : Nat → Int
  | 0 => 0
  | i + 1 => lentTo ns ls i + (max (gt ns i) (gt ls i) - gt ls i)
def borTo (ns ls : List Int) : Nat → Int
  | 0 => 0
  | i + 1 => borTo ns ls i + (max (gt ns i) (gt ls i) - gt ns i)

theorem lent_bounds {ns ls : List Int} : ∀ {i : Nat}, (∀ j, j < i → 0 ≤ gt ns j ∧ gt ns j ≤ 4096 ∧ 0 ≤ gt ls j ∧ gt ls j ≤ 4096) → 0 ≤ lentTo ns ls i ∧ lentTo ns ls i ≤ 4096 * i ∧ 0 ≤ borTo ns ls i ∧ borTo ns ls i ≤ 4096 * i
  | 0, _ => by simp [lentTo, borTo]
  | i + 1, h => by
    have h1 := lent_bounds fun j hj => h j (Nat.lt_succ_of_lt hj)
    have h2 := h i (Nat.lt_succ_self i)
    simp only [lentTo, borTo]
    omega

theorem lent0 (ns ls : List Int) : lentTo ns ls 0 = 0 := rfl
theorem bor0 (ns ls : List Int) : borTo ns ls 0 = 0 := rfl

theorem rf_set {α : Type} (f : α → List Go.AM.AVal) (xs : List α) (i : Nat) (a : α) : (rf f xs).set i (f a) = rf f (xs.set i a) := by simp [rf, List.map_set]

theorem smooth_set (ds : List Dm) (k : Nat) (d : Dm) : smooth (ds.set k d) = (smooth ds).set k d.2 := by simp [smooth, List.map_set]

end Go.Proofs.Yteajjckbjgmhaaa
