/-
  Plain laws of layers 3, 20, 2, 18 (M1 to M8).
-/
import Derived.KernelRfl
import Derived.Test.YteajjckbjgmhaaaAM37

section
namespace Go.Proofs.Yteajjckbjgmhaaa

abbrev gt (xs : List Int) (i : Nat) : Int := xs.getD i 0

/-- Of the first places the one that has least for what it wants and may have more; -1: none may. -/
def bestGo (p h w : List Int) : Nat → Int
  | 0 => -1
  | i + 1 => if gt p i = gt h i then bestGo p h w i else
      if bestGo p h w i < 0 ∨ (gt p i + 1) * (gt w (bestGo p h w i).toNat + 1) < (gt p (bestGo p h w i).toNat + 1) * (gt w i + 1) then (i : Int) else bestGo p h w i

/-- Among the places from a on, below b. -/
def Best (p h w : List Int) (a b : Nat) (k : Int) : Prop :=
  (k = -1 ∧ ∀ i, a ≤ i → i < b → gt p i = gt h i) ∨
  ∃ n : Nat, k = n ∧ a ≤ n ∧ n < b ∧ gt p n ≠ gt h n ∧ ∀ i, a ≤ i → i < b → gt p i ≠ gt h i →
    (gt p n + 1) * (gt w i + 1) ≤ (gt p i + 1) * (gt w n + 1) ∧ (i < n → (gt p n + 1) * (gt w i + 1) < (gt p i + 1) * (gt w n + 1))

theorem Best.unique {p h w : List Int} {a b : Nat} {k k' : Int} (h1 : Best p h w a b k) (h2 : Best p h w a b k') : k = k' := by
  rcases h1 with ⟨rfl, e1⟩ | ⟨n, rfl, a1, b1, c1, d1⟩ <;> rcases h2 with ⟨rfl, e2⟩ | ⟨m, rfl, a2, b2, c2, d2⟩
  · rfl
  · exact absurd (e1 m a2 b2) c2
  · exact absurd (e2 n a1 b1) c1
  · have x1 := d1 m a2 b2 c2
    have x2 := d2 n a1 b1 c1
    rcases Nat.lt_trichotomy n m with h | h | h
    · have := x2.2 h
      omega
    · rw [h]
    · have := x1.2 h
      omega

theorem ratio_le {a b c d e f : Int} (hd : 0 < d) (hb : 0 < b) (hf : 0 < f) (h1 : a * d ≤ c * b) (h2 : c * f ≤ e * d) : a * f ≤ e * b := by
  rcases Int.lt_or_le (e * b) (a * f) with h | h
  · exfalso
    have g1 := Int.mul_lt_mul_of_pos_right h hd
    have g2 := Int.mul_le_mul_of_nonneg_right h1 (Int.le_of_lt hf)
    have g3 := Int.mul_le_mul_of_nonneg_right h2 (Int.le_of_lt hb)
    have r1 : a * f * d = a * d * f := Int.mul_right_comm a f d
    have r2 : c * b * f = c * f * b := Int.mul_right_comm c b f
    have r3 : e * d * b = e * b * d := Int.mul_right_comm e d b
    omega
  · exact h

theorem ratio_lt {a b c d e f : Int} (hd : 0 < d) (hb : 0 < b) (hf : 0 < f) (h1 : a * d < c * b) (h2 : c * f ≤ e * d) : a * f < e * b := by
  rcases Int.lt_or_le (a * f) (e * b) with h | h
  · exact h
  · exfalso
    have g1 := Int.mul_le_mul_of_nonneg_right h (Int.le_of_lt hd)
    have g2 := Int.mul_lt_mul_of_pos_right h1 hf
    have g3 := Int.mul_le_mul_of_nonneg_right h2 (Int.le_of_lt hb)
    have r1 : a * f * d = a * d * f := Int.mul_right_comm a f d
    have r2 : c * b * f = c * f * b := Int.mul_right_comm c b f
    have r3 : e * d * b = e * b * d := Int.mul_right_comm e d b
    omega

theorem bestGo_ok (p h w : List Int) (n : Nat) (hw : ∀ i, i < n → 0 ≤ gt w i) : Best p h w 0 n (bestGo p h w n) := by
  induction n with
  | zero => exact .inl ⟨rfl, fun i _ hi => by omega⟩
  | succ n ih =>
    have ih := ih fun i hi => hw i (by omega)
    unfold bestGo
    by_cases hp : gt p n = gt h n
    · rw [if_pos hp]
      rcases ih with ⟨e, e1⟩ | ⟨m, e, a1, b1, c1, d1⟩
      · exact .inl ⟨e, fun i h1 h2 => by
          rcases Nat.lt_or_ge i n with h3 | h3
          · exact e1 i h1 h3
          · rw [show i = n by omega]; exact hp⟩
      · exact .inr ⟨m, e, a1, by omega, c1, fun i h1 h2 h3 => by
          rcases Nat.lt_or_ge i n with h4 | h4
          · exact d1 i h1 h4 h3
          · rw [show i = n by omega] at h3; exact absurd hp h3⟩
    · rw [if_neg hp]
      rcases ih with ⟨e, e1⟩ | ⟨m, e, a1, b1, c1, d1⟩
      · rw [e, if_pos (.inl (by omega))]
        exact .inr ⟨n, rfl, by omega, by omega, hp, fun i h1 h2 h3 => by
          rcases Nat.lt_or_ge i n with h4 | h4
          · exact absurd (e1 i h1 h4) h3
          · rw [show i = n by omega]; exact ⟨by omega, fun h => by omega⟩⟩
      · rw [e, Int.toNat_natCast]
        have wn := hw n (by omega)
        have wm := hw m (by omega)
        by_cases hlt : (gt p n + 1) * (gt w m + 1) < (gt p m + 1) * (gt w n + 1)
        · rw [if_pos (.inr hlt)]
          refine .inr ⟨n, rfl, by omega, by omega, hp, fun i h1 h2 h3 => ?_⟩
          rcases Nat.lt_or_ge i n with h4 | h4
          · have wi := hw i (by omega)
            have hh := ratio_lt (by omega) (by omega) (by omega) hlt (d1 i h1 h4 h3).1
            exact ⟨by omega, fun _ => hh⟩
          · rw [show i = n by omega]; exact ⟨by omega, fun h => by omega⟩
        · rw [if_neg (by omega)]
          refine .inr ⟨m, rfl, a1, by omega, c1, fun i h1 h2 h3 => ?_⟩
          rcases Nat.lt_or_ge i n with h4 | h4
          · exact d1 i h1 h4 h3
          · rw [show i = n by omega]; exact ⟨by omega, fun h => by omega⟩

/-- The way from the end. -/
theorem Best.back {p h w : List Int} {i n : Nat} {k : Int} (hw : ∀ j, j < n → 0 ≤ gt w j) (hin : i < n) (b : Best p h w (i + 1) n k) :
    (gt p i ≠ gt h i → (k < 0 ∨ (gt p i + 1) * (gt w k.toNat + 1) ≤ (gt p k.toNat + 1) * (gt w i + 1)) → Best p h w i n i) ∧
    (gt p i = gt h i ∨ (0 ≤ k ∧ (gt p k.toNat + 1) * (gt w i + 1) < (gt p i + 1) * (gt w k.toNat + 1)) → Best p h w i n k) := by
  have wi := hw i hin
  rcases b with ⟨rfl, e1⟩ | ⟨m, rfl, a1, b1, c1, d1⟩
  · refine ⟨fun hp _ => .inr ⟨i, rfl, by omega, hin, hp, fun j h1 h2 h3 => ?_⟩, fun hp => .inl ⟨rfl, fun j h1 h2 => ?_⟩⟩
    · rcases Nat.lt_or_ge i j with h4 | h4
      · exact absurd (e1 j (by omega) h2) h3
      · rw [show j = i by omega]; exact ⟨by omega, fun h => by omega⟩
    · rcases Nat.lt_or_ge i j with h4 | h4
      · exact e1 j (by omega) h2
      · rw [show j = i by omega]
        rcases hp with hp | hp
        · exact hp
        · omega
  · have wm := hw m b1
    rw [Int.toNat_natCast]
    refine ⟨fun hp hc => .inr ⟨i, rfl, by omega, hin, hp, fun j h1 h2 h3 => ?_⟩, fun hc => .inr ⟨m, rfl, by omega, b1, c1, fun j h1 h2 h3 => ?_⟩⟩
    · rcases Nat.lt_or_ge i j with h4 | h4
      · have wj := hw j h2
        have hc' : (gt p i + 1) * (gt w m + 1) ≤ (gt p m + 1) * (gt w i + 1) := by omega
        have hh := ratio_le (by omega) (by omega) (by omega) hc' (d1 j (by omega) h2 h3).1
        exact ⟨hh, fun h => by omega⟩
      · rw [show j = i by omega]; exact ⟨by omega, fun h => by omega⟩
    · rcases Nat.lt_or_ge i j with h4 | h4
      · exact d1 j (by omega) h2 h3
      · have e : j = i := by omega
        subst e
        rcases hc with hc | hc
        · exact absurd hc h3
        · exact ⟨by omega, fun _ => hc.2⟩

/-- So many are handed out. -/
def run (lo h w : List Int) : Nat → List Int
  | 0 => lo
  | t + 1 => (run lo h w t).set (bestGo (run lo h w t) h w lo.length).toNat (gt (run lo h w t) (bestGo (run lo h w t) h w lo.length).toNat + 1)

theorem run_length (lo h w : List Int) (t : Nat) : (run lo h w t).length = lo.length := by
  induction t with
  | zero => rfl
  | succ t ih => simp [run, ih]

theorem gt_set {p : List Int} {k i : Nat} {v : Int} (hk : k < p.length) : gt (p.set k v) i = if i = k then v else gt p i := by
  simp only [gt, List.getD_eq_getElem?_getD, List.getElem?_set]
  by_cases h : k = i
  · subst h
    simp [hk]
  · rw [if_neg h, if_neg (fun e => h e.symm)]

theorem sum_set {p : List Int} {k : Nat} {v : Int} (hk : k < p.length) : (p.set k v).sum = p.sum - gt p k + v := by
  induction p generalizing k with
  | nil => simp at hk
  | cons x xs ih =>
    cases k with
    | zero => simp [gt]; omega
    | succ k =>
      simp only [List.set_cons_succ, List.sum_cons]
      rw [ih (by simpa using hk)]
      simp only [gt, List.getD_cons_succ]
      omega

theorem sum_le {p h : List Int} (hl : p.length = h.length) (hle : ∀ i, i < p.length → gt p i ≤ gt h i) : p.sum ≤ h.sum := by
  induction p generalizing h with
  | nil => cases h with
    | nil => exact Int.le_refl _
    | cons y ys => simp at hl
  | cons x xs ih =>
    cases h with
    | nil => simp at hl
    | cons y ys =>
      have h0 := hle 0 (by simp)
      have h1 := ih (h := ys) (by simpa using hl) fun i hi => by
        have := hle (i + 1) (by simpa using hi)
        simpa [gt] using this
      simp [gt] at h0
      simp only [List.sum_cons]
      omega

theorem sum_eq {p h : List Int} (hl : p.length = h.length) (hle : ∀ i, i < p.length → gt p i ≤ gt h i) (hs : p.sum = h.sum) : p = h := by
  induction p generalizing h with
  | nil => cases h with
    | nil => rfl
    | cons y ys => simp at hl
  | cons x xs ih =>
    cases h with
    | nil => simp at hl
    | cons y ys =>
      have h0 := hle 0 (by simp)
      have hle' : ∀ i, i < xs.length → gt xs i ≤ gt ys i := fun i hi => by
        have := hle (i + 1) (by simpa using hi)
        simpa [gt] using this
      have h1 := sum_le (h := ys) (by simpa using hl) hle'
      simp [gt] at h0
      simp only [List.sum_cons] at hs
      rw [show x = y by omega, ih (by simpa using hl) hle' (by omega)]

theorem take_sum {xs : List Int} {i : Nat} (hi : i < xs.length) : (xs.take (i + 1)).sum = (xs.take i).sum + gt xs i := by
  rw [List.take_succ_eq_append_getElem hi, List.sum_append]
  simp [gt, List.getD_eq_getElem?_getD, List.getElem?_eq_getElem hi]

/-- What Spread lets in. -/
structure Val (total : Int) (lo h w : List Int) : Prop where
  t : 0 ≤ total ∧ total ≤ 4096
  lh : lo.length = h.length
  lw : lo.length = w.length
  n : lo.length ≤ 16
  ok : ∀ i, i < lo.length → 0 ≤ gt lo i ∧ gt lo i ≤ gt h i ∧ gt h i ≤ 4096 ∧ 0 ≤ gt w i ∧ gt w i ≤ 1048576
  lo : lo.sum ≤ total
  hi : total ≤ h.sum

/-- On the way. -/
structure Way (lo h w p : List Int) (t : Nat) : Prop where
  len : p.length = lo.length
  le : ∀ i, i < lo.length → gt lo i ≤ gt p i ∧ gt p i ≤ gt h i
  sum : p.sum = lo.sum + t
  fair : ∀ i k, i < lo.length → k < lo.length → gt lo i < gt p i → gt p k < gt h k → gt p i * (gt w k + 1) ≤ (gt p k + 1) * (gt w i + 1)
  same : ∀ i k, i < lo.length → k < i → gt lo i = gt lo k → gt h i = gt h k → gt w i = gt w k → gt p i ≤ gt p k ∧ gt p k ≤ gt p i + 1

theorem way_best {total : Int} {lo h w p : List Int} {t : Nat} (v : Val total lo h w) (r : Way lo h w p t) (ht : lo.sum + t < h.sum) :
    ∃ n : Nat, bestGo p h w lo.length = n ∧ n < lo.length ∧ gt p n < gt h n ∧ ∀ i, i < lo.length → gt p i ≠ gt h i →
      (gt p n + 1) * (gt w i + 1) ≤ (gt p i + 1) * (gt w n + 1) ∧ (i < n → (gt p n + 1) * (gt w i + 1) < (gt p i + 1) * (gt w n + 1)) := by
  rcases bestGo_ok p h w lo.length fun i hi => (v.ok i hi).2.2.2.1 with ⟨_, e⟩ | ⟨n, e, _, b, c, d⟩
  · exfalso
    have h1 := sum_le (p := h) (h := p) (by rw [r.len, v.lh]) fun i hi => by
      rw [e i (by omega) (by rw [v.lh]; exact hi)]
      exact Int.le_refl _
    rw [r.sum] at h1
    omega
  · have := (r.le n b).2
    exact ⟨n, e, b, by omega, fun i hi hp => d i (by omega) hi hp⟩

theorem way_run {total : Int} {lo h w : List Int} (v : Val total lo h w) (t : Nat) (ht : lo.sum + t ≤ total) : Way lo h w (run lo h w t) t := by
  induction t with
  | zero => exact ⟨rfl, fun i hi => ⟨Int.le_refl _, (v.ok i hi).2.1⟩, by simp [run], fun i k _ _ h1 => absurd h1 (Int.lt_irrefl _), fun i k _ _ e _ _ => by simp only [run, e]; omega⟩
  | succ t ih =>
    have r := ih (by omega)
    have hv := v.hi
    obtain ⟨n, e, b, c, d⟩ := way_best v r (by omega)
    have hlen := r.len
    have hn : n < (run lo h w t).length := by omega
    have hg : ∀ i, gt (run lo h w (t + 1)) i = if i = n then gt (run lo h w t) n + 1 else gt (run lo h w t) i := fun i => by
      simp only [run, e, Int.toNat_natCast]
      exact gt_set hn
    refine ⟨by rw [run_length], fun i hi => ?_, ?_, fun i k hi hk h1 h2 => ?_, fun i k hi hk e1 e2 e3 => ?_⟩
    · rw [hg]
      have := r.le i hi
      split
      · rename_i hin; subst hin; omega
      · exact this
    · simp only [run, e, Int.toNat_natCast]
      rw [sum_set hn, r.sum]
      simp only [gt]
      omega
    · rw [hg] at h1 h2 ⊢
      rw [hg k] at *
      have wi := (v.ok i hi).2.2.2.1
      have wk := (v.ok k hk).2.2.2.1
      by_cases hin : i = n
      · subst hin
        rw [if_pos rfl] at *
        by_cases hkn : k = i
        · subst hkn
          rw [if_pos rfl]
          exact Int.mul_le_mul_of_nonneg_right (by omega) (by omega)
        · rw [if_neg hkn] at *
          exact (d k hk (by omega)).1
      · rw [if_neg hin] at *
        by_cases hkn : k = n
        · subst hkn
          rw [if_pos rfl] at *
          have h3 := r.fair i k hi hk h1 c
          have h4 := Int.mul_le_mul_of_nonneg_right (show gt (run lo h w t) k + 1 ≤ gt (run lo h w t) k + 1 + 1 by omega) (show 0 ≤ gt w i + 1 by omega)
          omega
        · rw [if_neg hkn] at *
          exact r.fair i k hi hk h1 h2
    · have s := r.same i k hi hk e1 e2 e3
      have li := r.le i hi
      have lk := r.le k (by omega)
      have wi := (v.ok i hi).2.2.2.1
      rw [hg i, hg k]
      by_cases hin : i = n
      · subst hin
        rw [if_pos rfl, if_neg (by omega)]
        by_cases hkh : gt (run lo h w t) k = gt h k
        · omega
        · have h3 := (d k (by omega) hkh).2 hk
          rw [e3] at h3
          have h4 : gt (run lo h w t) i + 1 < gt (run lo h w t) k + 1 := Int.lt_of_mul_lt_mul_right h3 (by rw [← e3]; omega)
          omega
      · rw [if_neg hin]
        by_cases hkn : k = n
        · subst hkn
          rw [if_pos rfl]
          by_cases hih : gt (run lo h w t) i = gt h i
          · omega
          · have h3 := (d i hi hih).1
            rw [e3] at h3
            have h4 : gt (run lo h w t) k + 1 ≤ gt (run lo h w t) i + 1 := Int.le_of_mul_le_mul_right h3 (by rw [← e3]; omega)
            omega
        · rw [if_neg hkn]
          exact s

/-- Is it let in? -/
def okAll (lo h w : List Int) (n : Nat) : Bool := (List.range n).all fun i => decide (0 ≤ gt lo i) && decide (gt lo i ≤ gt h i) && decide (gt h i ≤ 4096) && decide (0 ≤ gt w i) && decide (gt w i ≤ 1048576)

theorem okAll_iff {lo h w : List Int} {n : Nat} : okAll lo h w n = true ↔ ∀ i, i < n → 0 ≤ gt lo i ∧ gt lo i ≤ gt h i ∧ gt h i ≤ 4096 ∧ 0 ≤ gt w i ∧ gt w i ≤ 1048576 := by
  unfold okAll
  rw [List.all_eq_true]
  refine ⟨fun h i hi => ?_, fun h i hi => ?_⟩
  · have := h i (List.mem_range.2 hi)
    simp only [Bool.and_eq_true, decide_eq_true_eq] at this
    omega
  · have := h i (List.mem_range.1 hi)
    simp only [Bool.and_eq_true, decide_eq_true_eq]
    omega

/-- What Spread answers. -/
def spr (total : Int) (lo h w : List Int) : List Int × Int :=
  if total < 0 ∨ 4096 < total then ([], 1) else if lo.length ≠ h.length ∨ lo.length ≠ w.length then ([], 2) else if 16 < lo.length then ([], 3) else
    if okAll lo h w lo.length = false then ([], 8) else if total < lo.sum ∨ h.sum < total then ([], 6) else (run lo h w (total - lo.sum).toNat, 0)

theorem spr_cases (total : Int) (lo h w : List Int) : (∃ e, e ≠ 0 ∧ spr total lo h w = ([], e)) ∨ (Val total lo h w ∧ spr total lo h w = (run lo h w (total - lo.sum).toNat, 0)) := by
  unfold spr
  by_cases h1 : total < 0 ∨ 4096 < total
  · rw [if_pos h1]; exact .inl ⟨1, by omega, rfl⟩
  rw [if_neg h1]
  by_cases h2 : lo.length ≠ h.length ∨ lo.length ≠ w.length
  · rw [if_pos h2]; exact .inl ⟨2, by omega, rfl⟩
  rw [if_neg h2]
  by_cases h3 : 16 < lo.length
  · rw [if_pos h3]; exact .inl ⟨3, by omega, rfl⟩
  rw [if_neg h3]
  by_cases h4 : okAll lo h w lo.length = false
  · rw [if_pos h4]; exact .inl ⟨8, by omega, rfl⟩
  rw [if_neg h4]
  by_cases h5 : total < lo.sum ∨ h.sum < total
  · rw [if_pos h5]; exact .inl ⟨6, by omega, rfl⟩
  rw [if_neg h5]
  refine .inr ⟨⟨by omega, by omega, by omega, by omega, okAll_iff.1 (by simpa using h4), by omega, by omega⟩, rfl⟩

end Go.Proofs.Yteajjckbjgmhaaa
end

section
namespace Go.Proofs.Yteajjckbjgmhaaa
open Go Go.AM

/-- Rows, by a function. -/
def rf {α : Type} (f : α → List AVal) (xs : List α) : List (List AVal) := xs.map f

theorem rf_length {α : Type} (f : α → List AVal) (xs : List α) : (rf f xs).length = xs.length := by simp [rf]
theorem rf_get {α : Type} (f : α → List AVal) {xs : List α} {i : Nat} {a : α} (h : xs[i]? = some a) : (rf f xs)[i]? = some (f a) := by simp [rf, h]
theorem rf_fz {α : Type} (f : α → List AVal) (hf : ∀ a x, x ∈ f a → Fz x) (xs : List α) (lim : Option Nat) : Fz (.sl (rf f xs) lim) := .sl _ _ fun r hr x hx => by
  simp only [rf, List.mem_map] at hr
  obtain ⟨a, _, rfl⟩ := hr
  exact hf a x hx
theorem rf_all {α : Type} (f : α → List AVal) (n : Nat) (hf : ∀ a, (f a).length = n) (xs : List α) : (∀ r, r ∈ rf f xs → r.length = n) = True := by
  simp only [rf, List.mem_map, eq_iff_iff, iff_true]
  rintro r ⟨a, _, rfl⟩
  exact hf a

theorem some_of_lt {α : Type} {xs : List α} {i : Nat} (h : i < xs.length) : ∃ a, xs[i]? = some a := ⟨xs[i], List.getElem?_eq_getElem h⟩

/-- So many are there, the others are 0. -/
def part (xs : List Int) (i : Nat) : List Int := xs.take i ++ List.replicate (xs.length - i) 0

theorem part_length {xs : List Int} {i : Nat} (h : i ≤ xs.length) : (part xs i).length = xs.length := by simp [part]; omega
theorem part_zero (xs : List Int) : part xs 0 = List.replicate xs.length 0 := by simp [part]
theorem part_all (xs : List Int) : part xs xs.length = xs := by simp [part]
theorem part_set {xs : List Int} {i : Nat} (h : i < xs.length) : (part xs i).set i (gt xs i) = part xs (i + 1) := by
  unfold part
  rw [List.set_append_right _ _ (by simp; omega)]
  have e1 : i - (List.take i xs).length = 0 := by simp; omega
  rw [e1]
  obtain ⟨k, hk⟩ : ∃ k, xs.length - i = k + 1 := ⟨xs.length - i - 1, by omega⟩
  rw [hk, List.replicate_succ, List.set_cons_zero, List.take_succ_eq_append_getElem h, List.append_assoc]
  have e2 : xs.length - (i + 1) = k := by omega
  rw [e2]
  simp [gt, List.getD_eq_getElem?_getD, List.getElem?_eq_getElem h]

theorem gt_map {α : Type} (f : α → Int) {xs : List α} {i : Nat} {a : α} (h : xs[i]? = some a) : gt (xs.map f) i = f a := by
  simp [gt, List.getD_eq_getElem?_getD, h]

theorem ri_rep (n : Nat) : List.replicate n [AVal.int .i64 0] = ri (List.replicate n 0) := by simp [ri]

/-- A bound: what a level has, its least, its most. -/
abbrev Bd := Int × Int × Int
def fb (b : Bd) : List AVal := [.int .i64 b.1, .int .i64 b.2.1, .int .i64 b.2.2]
def bnom (bs : List Bd) : List Int := bs.map (·.1)
def bmin (bs : List Bd) : List Int := bs.map (·.2.1)
def bmax (bs : List Bd) : List Int := bs.map (·.2.2)
/-- A demand: the high one, the smooth one. -/
abbrev Dm := Int × Int
def fd (d : Dm) : List AVal := [.int .i64 d.1, .int .i64 d.2]
def smooth (ds : List Dm) : List Int := ds.map (·.2)

theorem bmin_length (bs : List Bd) : (bmin bs).length = bs.length := by simp [bmin]
theorem bmax_length (bs : List Bd) : (bmax bs).length = bs.length := by simp [bmax]
theorem bnom_length (bs : List Bd) : (bnom bs).length = bs.length := by simp [bnom]
theorem smooth_length (ds : List Dm) : (smooth ds).length = ds.length := by simp [smooth]
theorem fb_fz (b : Bd) (x : AVal) (hx : x ∈ fb b) : Fz x := by
  simp [fb] at hx
  rcases hx with rfl | rfl | rfl <;> exact .int _ _
theorem fd_fz (b : Dm) (x : AVal) (hx : x ∈ fd b) : Fz x := by
  simp [fd] at hx
  rcases hx with rfl | rfl <;> exact .int _ _
theorem fb_iff (bs : List Bd) (lim : Option Nat) : Fz (.sl (rf fb bs) lim) ↔ True := ⟨fun _ => trivial, fun _ => rf_fz fb fb_fz bs lim⟩
theorem fd_iff (bs : List Dm) (lim : Option Nat) : Fz (.sl (rf fd bs) lim) ↔ True := ⟨fun _ => trivial, fun _ => rf_fz fd fd_fz bs lim⟩
theorem fb_nm (p : Nat → Prop) (bs : List Bd) (lim : Option Nat) : Nm p (.sl (rf fb bs) lim) ↔ True := ⟨fun _ => trivial, fun _ => Fz.nm (rf_fz fb fb_fz bs lim) p⟩
theorem fd_nm (p : Nat → Prop) (bs : List Dm) (lim : Option Nat) : Nm p (.sl (rf fd bs) lim) ↔ True := ⟨fun _ => trivial, fun _ => Fz.nm (rf_fz fd fd_fz bs lim) p⟩
theorem fb_all (bs : List Bd) : (∀ r, r ∈ rf fb bs → r.length = 3) = True := rf_all fb 3 (fun _ => rfl) bs
theorem fd_all (bs : List Dm) : (∀ r, r ∈ rf fd bs → r.length = 2) = True := rf_all fd 2 (fun _ => rfl) bs

end Go.Proofs.Yteajjckbjgmhaaa
end

section
namespace Go.Proofs.Yteajjckbjgmhaaa

theorem gt_ext' {xs ys : List Int} (hl : xs.length = ys.length) (h : ∀ i, i < xs.length → gt xs i = gt ys i) : xs = ys := by
  apply List.ext_getElem hl
  intro i h1 h2
  have := h i h1
  simpa [gt, List.getD_eq_getElem?_getD, List.getElem?_eq_getElem h1, List.getElem?_eq_getElem h2] using this

theorem borrow_more {total : Int} {lo h w w' : List Int} {k : Nat} (v : Val total lo h w) (v' : Val total lo h w') (hk : k < lo.length) (hne : ∀ i, i ≠ k → gt w' i = gt w i) (hge : gt w k ≤ gt w' k) :
    gt (run lo h w (total - lo.sum).toNat) k ≤ gt (run lo h w' (total - lo.sum).toNat) k := by
  rcases Int.lt_or_le (gt w k) (gt w' k) with hlt | hle
  · have vl := v.lo
    have r := way_run v (total - lo.sum).toNat (by omega)
    have r' := way_run v' (total - lo.sum).toNat (by omega)
    generalize run lo h w (total - lo.sum).toNat = x at *
    generalize run lo h w' (total - lo.sum).toNat = y at *
    rcases Int.lt_or_le (gt y k) (gt x k) with hc | hc
    · exfalso
      by_cases hex : ∃ j, j < lo.length ∧ gt x j < gt y j
      · obtain ⟨j, hj, hjl⟩ := hex
        have hjk : j ≠ k := fun e => by subst e; omega
        have a1 := r.le k hk
        have a2 := r.le j hj
        have b1 := r'.le k hk
        have b2 := r'.le j hj
        have o1 := v.ok k hk
        have o2 := v.ok j hj
        have o3 := v'.ok k hk
        have f1 := r.fair k j hk hj (by omega) (by omega)
        have f2 := r'.fair j k hj hk (by omega) (by omega)
        rw [hne j hjk] at f2
        have c1 := Int.mul_le_mul_of_nonneg_right (show gt x j + 1 ≤ gt y j by omega) (show 0 ≤ gt w' k + 1 by omega)
        have c2 := Int.mul_le_mul_of_nonneg_right (show gt y k + 1 ≤ gt x k by omega) (show 0 ≤ gt w j + 1 by omega)
        have c3 : (gt x j + 1) * (gt w' k + 1) ≤ (gt x j + 1) * (gt w k + 1) := by omega
        have c4 := Int.le_of_mul_le_mul_left c3 (by omega)
        omega
      · have hall : ∀ i, i < y.length → gt y i ≤ gt x i := fun i hi => by
          rcases Int.lt_or_le (gt x i) (gt y i) with h1 | h1
          · exact absurd ⟨i, by rw [← r'.len]; exact hi, h1⟩ hex
          · exact h1
        have := sum_eq (by rw [r.len, r'.len]) hall (by rw [r.sum, r'.sum])
        rw [this] at hc
        omega
    · exact hc
  · have e : w' = w := gt_ext' (by rw [← v.lw, ← v'.lw]) fun i _ => by
      by_cases hi : i = k
      · subst hi; omega
      · exact hne i hi
    rw [e]
    exact Int.le_refl _

/-- What is lent, and borrowed, up to a place. -/
def lentTo (ns ls : List Int) : Nat → Int
  | 0 => 0
  | i + 1 => lentTo ns ls i + (max (gt ns i) (gt ls i) - gt ls i)
def borTo (ns ls : List Int) : Nat → Int
  | 0 => 0
  | i + 1 => borTo ns ls i + (max (gt ns i) (gt ls i) - gt ns i)

theorem lent_bounds {ns ls : List Int} : ∀ {i : Nat}, (∀ j, j < i → 0 ≤ gt ns j ∧ gt ns j ≤ 4096 ∧ 0 ≤ gt ls j ∧ gt ls j ≤ 4096) → 0 ≤ lentTo ns ls i ∧ lentTo ns ls i ≤ 4096 * i ∧ 0 ≤ borTo ns ls i ∧ borTo ns ls i ≤ 4096 * i
  | 0, _ => by simp [lentTo, borTo]
  | i + 1, h => by
    have h1 := lent_bounds fun j hj => h j (Nat.lt_succ_of_lt hj)
    have h2 := h i (Nat.lt_succ_self i)
    simp only [lentTo, borTo]
    omega

theorem lent0 (ns ls : List Int) : lentTo ns ls 0 = 0 := rfl
theorem bor0 (ns ls : List Int) : borTo ns ls 0 = 0 := rfl

theorem rf_set {α : Type} (f : α → List Go.AM.AVal) (xs : List α) (i : Nat) (a : α) : (rf f xs).set i (f a) = rf f (xs.set i a) := by simp [rf, List.map_set]

theorem smooth_set (ds : List Dm) (k : Nat) (d : Dm) : smooth (ds.set k d) = (smooth ds).set k d.2 := by simp [smooth, List.map_set]

end Go.Proofs.Yteajjckbjgmhaaa
end

section
namespace Go.Proofs.Yteajjckbjgmhaaa

/-- A place, and what it lost. -/
abbrev Rs := Int × Int
abbrev ge (X : List Rs) (a : Nat) : Rs := X.getD a (0, 0)

def swp (X : List Rs) (j : Nat) : List Rs := (X.set (j + 1) (ge X j)).set j (ge X (j + 1))
def sift : Nat → List Rs → List Rs
  | 0, X => X
  | j + 1, X => if (ge X j).2 < (ge X (j + 1)).2 then sift j (swp X j) else X
def srt (L : List Rs) : Nat → List Rs
  | 0 => L
  | k + 1 => sift (k + 1) (srt L k)

def lt (e f : Rs) : Prop := f.2 < e.2 ∨ (e.2 = f.2 ∧ e.1 < f.1)
def Srt (X : List Rs) (m : Nat) : Prop := ∀ a b, a < b → b < m → lt (ge X a) (ge X b)

theorem swp_length (X : List Rs) (j : Nat) : (swp X j).length = X.length := by simp [swp]
theorem sift_length : ∀ (j : Nat) (X : List Rs), (sift j X).length = X.length
  | 0, X => rfl
  | j + 1, X => by
    unfold sift
    split
    · rw [sift_length j, swp_length]
    · rfl
theorem srt_length (L : List Rs) : ∀ k, (srt L k).length = L.length
  | 0 => rfl
  | k + 1 => by
    show (sift (k + 1) (srt L k)).length = _
    rw [sift_length, srt_length L k]

theorem ge_set {X : List Rs} {k i : Nat} {v : Rs} (hk : k < X.length) : ge (X.set k v) i = if i = k then v else ge X i := by
  simp only [ge, List.getD_eq_getElem?_getD, List.getElem?_set]
  by_cases h : k = i
  · subst h
    simp [hk]
  · rw [if_neg h, if_neg (fun e => h e.symm)]

theorem ge_swp {X : List Rs} {j : Nat} (hj : j + 1 < X.length) (a : Nat) : ge (swp X j) a = if a = j then ge X (j + 1) else if a = j + 1 then ge X j else ge X a := by
  unfold swp
  rw [ge_set (by simp; omega)]
  split
  · rfl
  · rw [ge_set hj]

theorem sift_sorted : ∀ (j : Nat) (X : List Rs) (m : Nat), m ≤ X.length → j < m → (∀ a b, a < b → b < m → a ≠ j → b ≠ j → lt (ge X a) (ge X b)) → (∀ b, j < b → b < m → lt (ge X j) (ge X b)) →
    (∀ a, a < j → (ge X a).1 < (ge X j).1) → Srt (sift j X) m
  | 0, X, m, hm, hj, h1, h2, h3 => fun a b hab hb => by
    show lt (ge X a) (ge X b)
    by_cases ha : a = 0
    · subst ha; exact h2 b hab hb
    · exact h1 a b hab hb ha (by omega)
  | j + 1, X, m, hm, hj, h1, h2, h3 => by
    unfold sift
    have hl : j + 1 < X.length := by omega
    split
    · rename_i hc
      refine sift_sorted j (swp X j) m (by rw [swp_length]; exact hm) (by omega) (fun a b hab hb ha hbj => ?_) (fun b hjb hb => ?_) (fun a ha => ?_)
      · rw [ge_swp hl, ge_swp hl, if_neg ha, if_neg hbj]
        by_cases ha1 : a = j + 1
        · rw [if_pos ha1, if_neg (by omega)]
          exact h1 j b (by omega) hb (by omega) (by omega)
        · rw [if_neg ha1]
          by_cases hb1 : b = j + 1
          · rw [if_pos hb1]
            exact h1 a j (by omega) (by omega) (by omega) (by omega)
          · rw [if_neg hb1]
            exact h1 a b hab hb ha1 hb1
      · rw [ge_swp hl, ge_swp hl, if_pos rfl, if_neg (by omega)]
        by_cases hb1 : b = j + 1
        · rw [if_pos hb1]
          exact .inl hc
        · rw [if_neg hb1]
          exact h2 b (by omega) hb
      · rw [ge_swp hl, ge_swp hl, if_pos rfl, if_neg (by omega), if_neg (by omega)]
        exact h3 a (by omega)
    · rename_i hc
      intro a b hab hb
      by_cases hb1 : b = j + 1
      · subst hb1
        have hat := h3 a hab
        have hle : (ge X (j + 1)).2 ≤ (ge X a).2 := by
          by_cases haj : a = j
          · subst haj; omega
          · rcases h1 a j (by omega) (by omega) (by omega) (by omega) with h | h
            · omega
            · omega
        rcases Int.lt_or_eq_of_le hle with h | h
        · exact .inl h
        · exact .inr ⟨h.symm, hat⟩
      · by_cases ha1 : a = j + 1
        · subst ha1; exact h2 b hab hb
        · exact h1 a b hab hb ha1 hb1

/-- What stands in the list. -/
structure Cont (l : List Int) (X : List Rs) : Prop where
  len : X.length = l.length
  fr : ∀ a, a < l.length → ∃ i : Nat, i < l.length ∧ ge X a = ((i : Int), gt l i)
  to : ∀ i : Nat, i < l.length → ∃ a, a < l.length ∧ ge X a = ((i : Int), gt l i)

theorem Cont.swp {l : List Int} {X : List Rs} (c : Cont l X) {j : Nat} (hj : j + 1 < l.length) : Cont l (swp X j) := by
  have hl : j + 1 < X.length := by rw [c.len]; exact hj
  refine ⟨by rw [swp_length, c.len], fun a ha => ?_, fun i hi => ?_⟩
  · rw [ge_swp hl]
    split
    · exact c.fr (j + 1) hj
    · split
      · exact c.fr j (by omega)
      · exact c.fr a ha
  · obtain ⟨a, ha, e⟩ := c.to i hi
    by_cases h1 : a = j
    · exact ⟨j + 1, hj, by rw [ge_swp hl, if_neg (by omega), if_pos rfl, ← h1, e]⟩
    · by_cases h2 : a = j + 1
      · exact ⟨j, by omega, by rw [ge_swp hl, if_pos rfl, ← h2, e]⟩
      · exact ⟨a, ha, by rw [ge_swp hl, if_neg h1, if_neg h2, e]⟩

theorem Cont.sift {l : List Int} : ∀ {j : Nat} {X : List Rs}, Cont l X → j < l.length → Cont l (sift j X)
  | 0, X, c, _ => c
  | j + 1, X, c, hj => by
    unfold Proofs.Yteajjckbjgmhaaa.sift
    split
    · exact Cont.sift (c.swp hj) (by omega)
    · exact c

theorem sift_above : ∀ {j : Nat} {X : List Rs} (b : Nat), j < X.length → j < b → ge (sift j X) b = ge X b
  | 0, X, b, _, _ => rfl
  | j + 1, X, b, hl, hb => by
    unfold sift
    split
    · rw [sift_above b (by rw [swp_length]; omega) (by omega), ge_swp hl, if_neg (by omega), if_neg (by omega)]
    · rfl

theorem sift_below {c : Int} : ∀ {j : Nat} {X : List Rs}, j < X.length → (∀ a, a ≤ j → (ge X a).1 ≤ c) → ∀ a, a ≤ j → (ge (sift j X) a).1 ≤ c
  | 0, X, _, h, a, ha => h a ha
  | j + 1, X, hl, h, a, ha => by
    unfold sift
    split
    · have hw : ∀ a, a ≤ j + 1 → (ge (swp X j) a).1 ≤ c := fun a ha => by
        rw [ge_swp hl]
        split
        · exact h _ (Nat.le_refl _)
        · split
          · exact h _ (by omega)
          · exact h a ha
      rcases Nat.lt_or_ge j a with h1 | h1
      · rw [sift_above a (by rw [swp_length]; omega) h1]
        exact hw a ha
      · exact sift_below (by rw [swp_length]; omega) (fun a ha => hw a (by omega)) a h1
    · exact h a ha

/-- The list as it is at first. -/
def enumR (l : List Int) : List Rs := (List.range l.length).map fun (i : Nat) => ((i : Int), gt l i)

theorem enumR_length (l : List Int) : (enumR l).length = l.length := by simp [enumR]
theorem ge_enumR {l : List Int} {i : Nat} (hi : i < l.length) : ge (enumR l) i = ((i : Int), gt l i) := by
  simp [ge, enumR, List.getD_eq_getElem?_getD, hi]

theorem enumR_cont (l : List Int) : Cont l (enumR l) := ⟨enumR_length l, fun a ha => ⟨a, ha, ge_enumR ha⟩, fun i hi => ⟨i, hi, ge_enumR hi⟩⟩

theorem srt_ok (l : List Int) : ∀ k, k < l.length → Cont l (srt (enumR l) k) ∧ Srt (srt (enumR l) k) (k + 1) ∧ (∀ a, a ≤ k → (ge (srt (enumR l) k) a).1 ≤ k) ∧ ∀ b, k < b → ge (srt (enumR l) k) b = ge (enumR l) b
  | 0, hk => ⟨enumR_cont l, fun a b h1 h2 => by omega, fun a ha => by
      have e : a = 0 := by omega
      subst e
      show (ge (enumR l) 0).1 ≤ _
      rw [ge_enumR hk]
      exact Int.le_refl _, fun b _ => rfl⟩
  | k + 1, hk => by
    obtain ⟨c, s, below, above⟩ := srt_ok l k (by omega)
    have hl : k + 1 < (srt (enumR l) k).length := by rw [c.len]; exact hk
    have he := above (k + 1) (by omega)
    rw [ge_enumR hk] at he
    have hb : ∀ a, a ≤ k + 1 → (ge (srt (enumR l) k) a).1 ≤ ((k + 1 : Nat) : Int) := fun a ha => by
      rcases Nat.lt_or_ge k a with h1 | h1
      · rw [show a = k + 1 by omega, he]; exact Int.le_refl _
      · have := below a h1; omega
    refine ⟨c.sift hk, ?_, sift_below hl hb, fun b hb1 => ?_⟩
    · refine sift_sorted (k + 1) _ (k + 2) (by omega) (by omega) (fun a b hab hb1 h1 h2 => s a b hab (by omega)) (fun b h1 h2 => by omega) (fun a ha => ?_)
      rw [he]
      have := below a (by omega)
      show _ < ((k + 1 : Nat) : Int)
      omega
    · show ge (sift (k + 1) (srt (enumR l) k)) b = _
      rw [sift_above b hl hb1, above b (by omega)]

/-- The sorted list. -/
def sorted (l : List Int) : List Rs := srt (enumR l) (l.length - 1)

structure Sd (l : List Int) (S : List Rs) : Prop where
  c : Cont l S
  s : Srt S l.length

theorem sorted_ok (l : List Int) : Sd l (sorted l) := by
  unfold sorted
  rcases Nat.eq_zero_or_pos l.length with h | h
  · rw [h]
    exact ⟨enumR_cont l, fun a b _ hb => by omega⟩
  · obtain ⟨c, s, _⟩ := srt_ok l (l.length - 1) (by omega)
    rw [show l.length - 1 + 1 = l.length by omega] at s
    exact ⟨c, s⟩

theorem lt_irrefl {e : Rs} : ¬ lt e e := fun h => by
  rcases h with h | h <;> omega

theorem Sd.inj {l : List Int} {S : List Rs} (sd : Sd l S) {a b : Nat} (ha : a < l.length) (hb : b < l.length) (e : (ge S a).1 = (ge S b).1) : a = b := by
  obtain ⟨i, hi, e1⟩ := sd.c.fr a ha
  obtain ⟨k, hk, e2⟩ := sd.c.fr b hb
  rw [e1, e2] at e
  have hik : i = k := by
    have e' : (i : Int) = k := e
    omega
  subst hik
  have he : ge S a = ge S b := by rw [e1, e2]
  rcases Nat.lt_trichotomy a b with h | h | h
  · have := sd.s a b h hb; rw [he] at this; exact absurd this lt_irrefl
  · exact h
  · have := sd.s b a h ha; rw [he] at this; exact absurd this lt_irrefl

/-- The first ones have one more. -/
def addTo (q : List Int) (S : List Rs) : Nat → List Int
  | 0 => q
  | t + 1 => (addTo q S t).set (ge S t).1.toNat (gt (addTo q S t) (ge S t).1.toNat + 1)

theorem addTo_length (q : List Int) (S : List Rs) : ∀ t, (addTo q S t).length = q.length
  | 0 => rfl
  | t + 1 => by simp [addTo, addTo_length q S t]

theorem addTo_sum {q l : List Int} {S : List Rs} (sd : Sd l S) (hq : q.length = l.length) : ∀ t, t ≤ l.length → (addTo q S t).sum = q.sum + t
  | 0, _ => by simp [addTo]
  | t + 1, ht => by
    obtain ⟨i, hi, e⟩ := sd.c.fr t (by omega)
    simp only [addTo, e, Int.toNat_natCast]
    rw [sum_set (by rw [addTo_length]; omega), addTo_sum sd hq t (by omega)]
    simp only [gt]
    omega

/-- Is a place among the first ones? -/
theorem addTo_get {q l : List Int} {S : List Rs} (sd : Sd l S) (hq : q.length = l.length) {i p : Nat} (hp : p < l.length) (he : ge S p = ((i : Int), gt l i)) : ∀ t, t ≤ l.length → gt (addTo q S t) i = gt q i + if p < t then 1 else 0
  | 0, _ => by simp [addTo]
  | t + 1, ht => by
    obtain ⟨k, hk, e⟩ := sd.c.fr t (by omega)
    have ih := addTo_get sd hq hp he t (by omega)
    simp only [addTo, e, Int.toNat_natCast]
    rw [gt_set (by rw [addTo_length]; omega)]
    by_cases hik : i = k
    · subst hik
      have hpt : p = t := sd.inj hp (by omega) (by rw [he, e])
      subst hpt
      rw [if_pos rfl, ih, if_neg (by omega), if_pos (by omega)]
      omega
    · rw [if_neg hik, ih]
      have hpt : p ≠ t := fun h => by
        subst h
        rw [he] at e
        apply hik
        have e' : (i : Int) = k := congrArg Prod.fst e
        omega
      by_cases h1 : p < t
      · rw [if_pos h1, if_pos (by omega)]
      · rw [if_neg h1, if_neg (by omega)]

end Go.Proofs.Yteajjckbjgmhaaa
end

section
namespace Go.Proofs.Yteajjckbjgmhaaa
open Go Go.AM

def fr (e : Rs) : List AVal := [.int .i64 e.1, .int .i64 e.2]
theorem fr_fz (b : Rs) (x : AVal) (hx : x ∈ fr b) : Fz x := by
  simp [fr] at hx
  rcases hx with rfl | rfl <;> exact .int _ _
theorem fr_all (bs : List Rs) : (∀ r, r ∈ rf fr bs → r.length = 2) = True := rf_all fr 2 (fun _ => rfl) bs
theorem fr_onm (p : Nat → Prop) (esz : Nat) (xs : List Rs) : (Ob.arr esz (rf fr xs)).nm p ↔ True := ⟨fun _ => trivial, fun _ r hr x hx => by
  simp only [rf, List.mem_map] at hr
  obtain ⟨a, _, rfl⟩ := hr
  exact Fz.nm (fr_fz a x hx) p⟩
theorem fr_rep (n : Nat) : List.replicate n [AVal.int .i64 0, AVal.int .i64 0] = rf fr (List.replicate n (0, 0)) := by simp [rf, fr]
theorem fr_get {X : List Rs} {a : Nat} (h : a < X.length) : (rf fr X)[a]? = some [.int .i64 (ge X a).1, .int .i64 (ge X a).2] := by
  have := rf_get fr (List.getElem?_eq_getElem h)
  simpa [fr, ge, List.getD_eq_getElem?_getD, List.getElem?_eq_getElem h] using this
theorem fr_set (X : List Rs) (a : Nat) (x y : Int) : (rf fr X).set a [.int .i64 x, .int .i64 y] = rf fr (X.set a (x, y)) := by
  simp [rf, fr, List.map_set]

/-- So many are there, the others are naught. -/
def partR (xs : List Rs) (i : Nat) : List Rs := xs.take i ++ List.replicate (xs.length - i) (0, 0)
theorem partR_length {xs : List Rs} {i : Nat} (h : i ≤ xs.length) : (partR xs i).length = xs.length := by simp [partR]; omega
theorem partR_zero (xs : List Rs) : partR xs 0 = List.replicate xs.length (0, 0) := by simp [partR]
theorem partR_all (xs : List Rs) : partR xs xs.length = xs := by simp [partR]
theorem partR_set {xs : List Rs} {i : Nat} (h : i < xs.length) : (partR xs i).set i (ge xs i) = partR xs (i + 1) := by
  unfold partR
  rw [List.set_append_right _ _ (by simp; omega)]
  have e1 : i - (List.take i xs).length = 0 := by simp; omega
  rw [e1]
  obtain ⟨k, hk⟩ : ∃ k, xs.length - i = k + 1 := ⟨xs.length - i - 1, by omega⟩
  rw [hk, List.replicate_succ, List.set_cons_zero, List.take_succ_eq_append_getElem h, List.append_assoc]
  have e2 : xs.length - (i + 1) = k := by omega
  rw [e2]
  simp [ge, List.getD_eq_getElem?_getD, List.getElem?_eq_getElem h]

def qs (total : Int) (sh : List Int) : List Int := sh.map fun s => total * s / sh.sum
def lost (total : Int) (sh : List Int) : List Int := sh.map fun s => total * s % sh.sum
def leftO (total : Int) (sh : List Int) : Int := total - (qs total sh).sum
def okS (sh : List Int) (n : Nat) : Bool := (List.range n).all fun i => decide (0 ≤ gt sh i) && decide (gt sh i ≤ 10000)

theorem okS_iff {sh : List Int} {n : Nat} : okS sh n = true ↔ ∀ i, i < n → 0 ≤ gt sh i ∧ gt sh i ≤ 10000 := by
  unfold okS
  rw [List.all_eq_true]
  refine ⟨fun h i hi => ?_, fun h i hi => ?_⟩
  · have := h i (List.mem_range.2 hi)
    simp only [Bool.and_eq_true, decide_eq_true_eq] at this
    omega
  · have := h i (List.mem_range.1 hi)
    simp only [Bool.and_eq_true, decide_eq_true_eq]
    omega

theorem okS_succ (sh : List Int) (i : Nat) : okS sh (i + 1) = true ↔ okS sh i = true ∧ (0 ≤ gt sh i ∧ gt sh i ≤ 10000) := by
  rw [okS_iff, okS_iff]
  refine ⟨fun h => ⟨fun j hj => h j (by omega), h i (by omega)⟩, fun h j hj => ?_⟩
  rcases Nat.lt_or_ge j i with h1 | h1
  · exact h.1 j h1
  · rw [show j = i by omega]; exact h.2

theorem okS_false {sh : List Int} {i n : Nat} (hi : i < n) (hc : ¬ (0 ≤ gt sh i ∧ gt sh i ≤ 10000)) : okS sh n = false := by
  cases e : okS sh n with
  | false => rfl
  | true => exact absurd (okS_iff.1 e i hi) hc

/-- What Split answers. -/
def spl (total : Int) (sh : List Int) : List Int × Int :=
  if total < 0 ∨ 4096 < total then ([], 1) else if 16 < sh.length then ([], 3) else if okS sh sh.length = false then ([], 8) else if sh.sum = 0 then ([], 6) else
    (addTo (qs total sh) (sorted (lost total sh)) (leftO total sh).toNat, 0)

/-- What Split lets in. -/
structure SV (total : Int) (sh : List Int) : Prop where
  t : 0 ≤ total ∧ total ≤ 4096
  n : sh.length ≤ 16
  ok : ∀ i, i < sh.length → 0 ≤ gt sh i ∧ gt sh i ≤ 10000
  pos : 0 < sh.sum

theorem sum_nn {xs : List Int} (h : ∀ i, i < xs.length → 0 ≤ gt xs i) : 0 ≤ xs.sum := by
  induction xs with
  | nil => simp
  | cons x xs ih =>
    have h0 := h 0 (by simp)
    have h1 := ih fun i hi => by have := h (i + 1) (by simpa using hi); simpa [gt] using this
    simp [gt] at h0
    simp only [List.sum_cons]
    omega

theorem spl_cases (total : Int) (sh : List Int) : (∃ e, e ≠ 0 ∧ spl total sh = ([], e)) ∨ (SV total sh ∧ spl total sh = (addTo (qs total sh) (sorted (lost total sh)) (leftO total sh).toNat, 0)) := by
  unfold spl
  by_cases h1 : total < 0 ∨ 4096 < total
  · rw [if_pos h1]; exact .inl ⟨1, by omega, rfl⟩
  rw [if_neg h1]
  by_cases h2 : 16 < sh.length
  · rw [if_pos h2]; exact .inl ⟨3, by omega, rfl⟩
  rw [if_neg h2]
  by_cases h3 : okS sh sh.length = false
  · rw [if_pos h3]; exact .inl ⟨8, by omega, rfl⟩
  rw [if_neg h3]
  by_cases h4 : sh.sum = 0
  · rw [if_pos h4]; exact .inl ⟨6, by omega, rfl⟩
  rw [if_neg h4]
  have hok := okS_iff.1 (by simpa using h3 : okS sh sh.length = true)
  have := sum_nn fun i hi => (hok i hi).1
  exact .inr ⟨⟨by omega, by omega, hok, by omega⟩, rfl⟩

theorem qs_length (total : Int) (sh : List Int) : (qs total sh).length = sh.length := by simp [qs]
theorem lost_length (total : Int) (sh : List Int) : (lost total sh).length = sh.length := by simp [lost]

theorem gt_qs {total : Int} {sh : List Int} {i : Nat} (hi : i < sh.length) : gt (qs total sh) i = total * gt sh i / sh.sum := by
  simp [qs, gt, List.getD_eq_getElem?_getD, List.getElem?_eq_getElem hi]
theorem gt_lost {total : Int} {sh : List Int} {i : Nat} (hi : i < sh.length) : gt (lost total sh) i = total * gt sh i % sh.sum := by
  simp [lost, gt, List.getD_eq_getElem?_getD, List.getElem?_eq_getElem hi]

theorem quota_sum (total S : Int) (sh : List Int) : (sh.map fun s => total * s / S).sum * S + (sh.map fun s => total * s % S).sum = total * sh.sum := by
  induction sh with
  | nil => simp
  | cons x xs ih =>
    have h := Int.mul_ediv_add_emod (total * x) S
    simp only [List.map_cons, List.sum_cons]
    rw [Int.add_mul, Int.mul_add]
    rw [Int.mul_comm S] at h
    omega

theorem sum_lt {xs : List Int} {S : Int} (hne : 0 < xs.length) (h : ∀ i, i < xs.length → gt xs i < S) : xs.sum < xs.length * S := by
  induction xs with
  | nil => simp at hne
  | cons x xs ih =>
    have h0 := h 0 (by simp)
    simp [gt] at h0
    rcases Nat.eq_zero_or_pos xs.length with h1 | h1
    · have e : xs = [] := List.length_eq_zero_iff.1 h1
      subst e
      simp
      exact h0
    · have h2 := ih h1 fun i hi => by have := h (i + 1) (by simpa using hi); simpa [gt] using this
      simp only [List.sum_cons, List.length_cons]
      rw [Int.natCast_add, Int.add_mul]
      omega

theorem gt_le_sum {xs : List Int} (h : ∀ i, i < xs.length → 0 ≤ gt xs i) {i : Nat} (hi : i < xs.length) : gt xs i ≤ xs.sum := by
  induction xs generalizing i with
  | nil => simp at hi
  | cons x xs ih =>
    have h0 := h 0 (by simp)
    simp [gt] at h0
    have h1 : ∀ i, i < xs.length → 0 ≤ gt xs i := fun i hi => by have := h (i + 1) (by simpa using hi); simpa [gt] using this
    have h2 := sum_nn h1
    cases i with
    | zero => simp [gt]; omega
    | succ i =>
      have := ih h1 (by simpa using hi)
      simp only [List.sum_cons, gt, List.getD_cons_succ] at this ⊢
      omega

/-- What is known of the quotas. -/
structure SQ (total : Int) (sh : List Int) : Prop where
  q : ∀ i, i < sh.length → 0 ≤ gt (qs total sh) i ∧ gt (qs total sh) i ≤ total ∧ gt (qs total sh) i * sh.sum + gt (lost total sh) i = total * gt sh i ∧ 0 ≤ gt (lost total sh) i ∧ gt (lost total sh) i < sh.sum
  left : leftO total sh * sh.sum = (lost total sh).sum
  l0 : 0 ≤ leftO total sh
  ln : leftO total sh < sh.length
  ne : 0 < sh.length

theorem SV.q {total : Int} {sh : List Int} (v : SV total sh) : SQ total sh := by
  have hp := v.pos
  have hne : 0 < sh.length := by
    rcases Nat.eq_zero_or_pos sh.length with h | h
    · have e : sh = [] := List.length_eq_zero_iff.1 h
      subst e
      simp at hp
    · exact h
  have hq : ∀ i, i < sh.length → 0 ≤ gt (qs total sh) i ∧ gt (qs total sh) i ≤ total ∧ gt (qs total sh) i * sh.sum + gt (lost total sh) i = total * gt sh i ∧ 0 ≤ gt (lost total sh) i ∧ gt (lost total sh) i < sh.sum := fun i hi => by
    rw [gt_qs hi, gt_lost hi]
    have h0 := v.ok i hi
    have hm := Int.mul_nonneg v.t.1 h0.1
    have hle := gt_le_sum (fun i hi => (v.ok i hi).1) hi
    have hd := Int.mul_ediv_add_emod (total * gt sh i) sh.sum
    rw [Int.mul_comm sh.sum] at hd
    refine ⟨Int.ediv_nonneg hm (by omega), ?_, hd, Int.emod_nonneg _ (by omega), Int.emod_lt_of_pos _ hp⟩
    have h1 := Int.mul_le_mul_of_nonneg_left hle v.t.1
    have h2 := Int.ediv_le_ediv hp h1
    rw [Int.mul_ediv_cancel _ (by omega)] at h2
    exact h2
  have hl : leftO total sh * sh.sum = (lost total sh).sum := by
    have := quota_sum total sh.sum sh
    unfold leftO qs lost
    rw [Int.sub_mul]
    omega
  have hs0 := sum_nn (xs := lost total sh) fun i hi => (hq i (by rw [← lost_length total sh]; exact hi)).2.2.2.1
  have hs1 := sum_lt (xs := lost total sh) (S := sh.sum) (by rw [lost_length]; exact hne) fun i hi => (hq i (by rw [← lost_length total sh]; exact hi)).2.2.2.2
  rw [← hl] at hs0 hs1
  rw [lost_length] at hs1
  refine ⟨hq, hl, ?_, Int.lt_of_mul_lt_mul_right hs1 (by omega), hne⟩
  rcases Int.lt_or_le (leftO total sh) 0 with h | h
  · have := Int.mul_neg_of_neg_of_pos h hp
    omega
  · exact h

end Go.Proofs.Yteajjckbjgmhaaa
end

section
namespace Go.Proofs.Yteajjckbjgmhaaa

def sumR (X : List Rs) : Int := (X.map (·.2)).sum

theorem gt_snd {X : List Rs} {a : Nat} : gt (X.map (·.2)) a = (ge X a).2 := by
  simp only [gt, ge, List.getD_eq_getElem?_getD, List.getElem?_map]
  cases X[a]? <;> simp

theorem sumR_swp {X : List Rs} {j : Nat} (hj : j + 1 < X.length) : sumR (swp X j) = sumR X := by
  unfold sumR swp
  rw [List.map_set, List.map_set, sum_set (by simp; omega), sum_set (by simpa using hj), gt_set (by simpa using hj), if_neg (by omega), gt_snd, gt_snd]
  omega

theorem sumR_sift : ∀ (j : Nat) (X : List Rs), j < X.length → sumR (sift j X) = sumR X
  | 0, X, _ => rfl
  | j + 1, X, hj => by
    unfold sift
    split
    · rw [sumR_sift j _ (by rw [swp_length]; omega), sumR_swp hj]
    · rfl

theorem sumR_srt (L : List Rs) : ∀ k, k < L.length → sumR (srt L k) = sumR L
  | 0, _ => rfl
  | k + 1, hk => by
    show sumR (sift (k + 1) (srt L k)) = _
    rw [sumR_sift _ _ (by rw [srt_length]; exact hk), sumR_srt L k (by omega)]

theorem sumR_sorted (l : List Int) : sumR (sorted l) = l.sum := by
  have h1 : sumR (enumR l) = l.sum := by
    unfold sumR
    congr 1
    apply gt_ext' (by simp [enumR])
    intro i hi
    have hi' : i < l.length := by simpa [enumR] using hi
    rw [gt_snd, ge_enumR hi']
  unfold sorted
  rcases Nat.eq_zero_or_pos l.length with h | h
  · rw [h]; exact h1
  · rw [sumR_srt _ _ (by rw [enumR_length]; omega), h1]

theorem Sd.lt_pos {l : List Int} {S : List Rs} (sd : Sd l S) {a b : Nat} (ha : a < l.length) (hb : b < l.length) (h : lt (ge S a) (ge S b)) : a < b := by
  rcases Nat.lt_trichotomy a b with h1 | h1 | h1
  · exact h1
  · subst h1; exact absurd h lt_irrefl
  · have h2 := sd.s b a h1 ha
    rcases h with h | h <;> rcases h2 with h2 | h2 <;> omega

section
variable {total : Int} {sh : List Int}

/-- The parts. -/
def parts (total : Int) (sh : List Int) : List Int := addTo (qs total sh) (sorted (lost total sh)) (leftO total sh).toNat

theorem parts_length (total : Int) (sh : List Int) : (parts total sh).length = sh.length := by unfold parts; rw [addTo_length, qs_length]

theorem parts_sum (v : SV total sh) : (parts total sh).sum = total := by
  have q := v.q
  have := q.ln
  unfold parts
  rw [addTo_sum (sorted_ok (lost total sh)) (by rw [qs_length, lost_length]) _ (by rw [lost_length]; omega)]
  have h0 := q.l0
  unfold leftO at *
  omega

/-- Each one's place in the order, and what it comes to. -/
theorem parts_get (v : SV total sh) {i : Nat} (hi : i < sh.length) : ∃ p, p < sh.length ∧ ge (sorted (lost total sh)) p = ((i : Int), gt (lost total sh) i) ∧ gt (parts total sh) i = gt (qs total sh) i + if p < (leftO total sh).toNat then 1 else 0 := by
  have q := v.q
  have hln := q.ln
  obtain ⟨p, hp, he⟩ := (sorted_ok (lost total sh)).c.to i (by rw [lost_length]; exact hi)
  rw [lost_length] at hp
  exact ⟨p, hp, he, addTo_get (sorted_ok (lost total sh)) (by rw [qs_length, lost_length]) (by rw [lost_length]; exact hp) he _ (by rw [lost_length]; omega)⟩

/-- Who has one more had lost something. -/
theorem ext_pos (v : SV total sh) {i p : Nat} (hi : i < sh.length) (hp : p < sh.length) (he : ge (sorted (lost total sh)) p = ((i : Int), gt (lost total sh) i)) (hpt : p < (leftO total sh).toNat) : 0 < gt (lost total sh) i := by
  have q := v.q
  have sd := sorted_ok (lost total sh)
  rcases Int.lt_or_le 0 (gt (lost total sh) i) with h | h
  · exact h
  · exfalso
    have h0 : gt (lost total sh) i = 0 := by have := (q.q i hi).2.2.2.1; omega
    have hlen : (sorted (lost total sh)).length = sh.length := by rw [sd.c.len, lost_length]
    have hfr : ∀ a, a < sh.length → 0 ≤ (ge (sorted (lost total sh)) a).2 ∧ (ge (sorted (lost total sh)) a).2 < sh.sum := fun a ha => by
      obtain ⟨k, hk, e⟩ := sd.c.fr a (by rw [lost_length]; exact ha)
      rw [lost_length] at hk
      rw [e]
      exact ⟨(q.q k hk).2.2.2.1, (q.q k hk).2.2.2.2⟩
    have hz : ∀ a, p ≤ a → a < sh.length → (ge (sorted (lost total sh)) a).2 = 0 := fun a h1 h2 => by
      rcases Nat.eq_or_lt_of_le h1 with h3 | h3
      · rw [← h3, he]; exact h0
      · have := sd.s p a h3 (by rw [lost_length]; exact h2)
        rw [he] at this
        have h4 := (hfr a h2).1
        rcases this with h5 | h5
        · have h5' : (ge (sorted (lost total sh)) a).2 < gt (lost total sh) i := h5
          omega
        · have h5' : gt (lost total sh) i = (ge (sorted (lost total sh)) a).2 := h5.1
          omega
    obtain ⟨ys, hys⟩ : ∃ ys, (sorted (lost total sh)).map (·.2) = ys := ⟨_, rfl⟩
    have hyl : ys.length = sh.length := by rw [← hys]; simpa using hlen
    have hyg : ∀ a, gt ys a = (ge (sorted (lost total sh)) a).2 := fun a => by rw [← hys]; exact gt_snd
    have hsum : ys.sum = leftO total sh * sh.sum := by
      rw [q.left, ← hys]
      exact sumR_sorted (lost total sh)
    have hsplit : ys.sum = (ys.take p).sum + (ys.drop p).sum := by rw [← List.sum_append, List.take_append_drop]
    have hdrop : (ys.drop p).sum = 0 := by
      have e : ys.drop p = List.replicate (ys.length - p) 0 := by
        apply gt_ext' (by simp)
        intro k hk
        have hk' : p + k < ys.length := by simp at hk; omega
        have h1 := hz (p + k) (by omega) (by omega)
        rw [← hyg] at h1
        simp [gt, List.getD_eq_getElem?_getD] at h1 ⊢
        rw [h1]
        simp [List.getElem?_replicate]
        split <;> rfl
      rw [e]
      simp
    have hl0 := q.l0
    have hpos := v.pos
    rcases Nat.eq_zero_or_pos p with h1 | h1
    · subst h1
      simp at hsplit hdrop
      rw [hdrop] at hsum
      have : leftO total sh = 0 := by
        rcases Int.lt_or_eq_of_le hl0 with h2 | h2
        · have := Int.mul_pos h2 hpos; omega
        · exact h2.symm
      omega
    · have htl : (ys.take p).length = p := by simp; omega
      have h2 := sum_lt (xs := ys.take p) (S := sh.sum) (by omega) fun k hk => by
        have hk' : k < p := by omega
        have h3 := (hfr k (by omega)).2
        rw [← hyg] at h3
        simpa [gt, List.getD_eq_getElem?_getD, List.getElem?_take, hk'] using h3
      rw [htl] at h2
      have h3 : leftO total sh * sh.sum < (p : Int) * sh.sum := by omega
      have h4 := Int.lt_of_mul_lt_mul_right h3 (by omega)
      omega

theorem parts_whole (v : SV total sh) {i : Nat} (hi : i < sh.length) : total * gt sh i - sh.sum < gt (parts total sh) i * sh.sum ∧ gt (parts total sh) i * sh.sum < total * gt sh i + sh.sum ∧ 0 ≤ gt (parts total sh) i ∧ gt (parts total sh) i ≤ 4097 := by
  obtain ⟨p, hp, he, hg⟩ := parts_get v hi
  have q := v.q.q i hi
  have ht := v.t
  have hs := v.pos
  rw [hg]
  split
  · rename_i h
    have := ext_pos v hi hp he h
    rw [Int.add_mul, Int.one_mul]
    omega
  · rw [Int.add_zero]
    omega

theorem parts_order (v : SV total sh) {i k : Nat} (hi : i < sh.length) (hk : k < sh.length) (h : gt sh k < gt sh i ∨ gt sh i = gt sh k ∧ i < k) :
    gt (parts total sh) k ≤ gt (parts total sh) i ∧ (gt sh i = gt sh k → gt (parts total sh) i ≤ gt (parts total sh) k + 1) := by
  obtain ⟨p, hp, he, hg⟩ := parts_get v hi
  obtain ⟨r, hr, hf, hg'⟩ := parts_get v hk
  have qi := v.q.q i hi
  have qk := v.q.q k hk
  have ht := v.t
  have hs := v.pos
  have sd := sorted_ok (lost total sh)
  have hle : gt sh k ≤ gt sh i := by omega
  have hm := Int.mul_le_mul_of_nonneg_left hle ht.1
  have hq : gt (qs total sh) k ≤ gt (qs total sh) i := by
    rw [gt_qs hi, gt_qs hk]
    exact Int.ediv_le_ediv hs hm
  have hlt : lt (ge (sorted (lost total sh)) p) (ge (sorted (lost total sh)) r) → p < r := fun h1 => sd.lt_pos (by rw [lost_length]; exact hp) (by rw [lost_length]; exact hr) h1
  rw [he, hf] at hlt
  rw [hg, hg']
  rcases Int.lt_or_eq_of_le hq with h1 | h1
  · refine ⟨by split <;> split <;> omega, fun e => ?_⟩
    rw [gt_qs hi, gt_qs hk, e] at h1
    omega
  · rw [← h1] at qi ⊢
    rcases h with h | ⟨h, hik⟩
    · refine ⟨?_, fun e => by omega⟩
      rcases Int.lt_or_eq_of_le ht.1 with h2 | h2
      · have h3 : total * gt sh k < total * gt sh i := Int.mul_lt_mul_of_pos_left h h2
        have := hlt (.inl (show gt (lost total sh) k < gt (lost total sh) i by omega))
        split <;> split <;> omega
      · have hl : leftO total sh ≤ 0 := by
          have h4 := sum_nn (xs := qs total sh) fun j hj => (v.q.q j (by rw [← qs_length total sh]; exact hj)).1
          unfold leftO
          omega
        rw [if_neg (by omega), if_neg (by omega)]
        omega
    · rw [h] at qi
      have := hlt (.inr ⟨show gt (lost total sh) i = gt (lost total sh) k by omega, show (i : Int) < k by omega⟩)
      exact ⟨by split <;> split <;> omega, fun _ => by split <;> split <;> omega⟩

theorem parts_zero (v : SV total sh) {i : Nat} (hi : i < sh.length) (h : gt sh i = 0) : gt (parts total sh) i = 0 := by
  obtain ⟨p, hp, he, hg⟩ := parts_get v hi
  have hq : gt (qs total sh) i = 0 := by rw [gt_qs hi, h]; simp
  have hl : gt (lost total sh) i = 0 := by rw [gt_lost hi, h]; simp
  rw [hg, hq]
  split
  · rename_i h1
    have := ext_pos v hi hp he h1
    omega
  · rfl

theorem sum_one {xs : List Int} {i : Nat} (hi : i < xs.length) (h : ∀ j, j < xs.length → j ≠ i → gt xs j = 0) : xs.sum = gt xs i := by
  have e : xs = (List.replicate xs.length 0).set i (gt xs i) := by
    apply gt_ext' (by simp)
    intro j hj
    rw [gt_set (by simpa using hi)]
    split
    · rename_i e; rw [e]
    · rename_i e
      rw [h j hj e]
      simp [gt, List.getD_eq_getElem?_getD, hj]
  rw [e, sum_set (by simpa using hi), gt_set (by simpa using hi), if_pos rfl]
  simp [gt, List.getD_eq_getElem?_getD, hi]
end

theorem parts_exact {sh : List Int} {times : Int} (v : SV (sh.sum * times) sh) {i : Nat} (hi : i < sh.length) : gt (parts (sh.sum * times) sh) i = gt sh i * times := by
  obtain ⟨p, hp, he, hg⟩ := parts_get v hi
  have hs := v.pos
  have hm : ∀ j, sh.sum * times * gt sh j = sh.sum * (gt sh j * times) := fun j => by rw [Int.mul_assoc, Int.mul_comm times]
  have hl : ∀ j, j < sh.length → gt (lost (sh.sum * times) sh) j = 0 := fun j hj => by
    rw [gt_lost hj, hm, Int.mul_emod_right]
  have hq : gt (qs (sh.sum * times) sh) i = gt sh i * times := by
    rw [gt_qs hi, hm, Int.mul_ediv_cancel_left _ (by omega)]
  rw [hg, hq]
  split
  · rename_i h1
    have := ext_pos v hi hp he h1
    rw [hl i hi] at this
    omega
  · omega

/-! ### Shares that are taken so many times -/

def sc (t : Int) (X : List Rs) : List Rs := X.map fun e => (e.1, e.2 * t)

theorem ge_sc (t : Int) (X : List Rs) (a : Nat) : ge (sc t X) a = ((ge X a).1, (ge X a).2 * t) := by
  simp only [ge, sc, List.getD_eq_getElem?_getD, List.getElem?_map]
  cases X[a]? <;> simp

theorem sc_swp (t : Int) (X : List Rs) (j : Nat) : swp (sc t X) j = sc t (swp X j) := by
  unfold swp
  rw [ge_sc, ge_sc]
  simp [sc, List.map_set]

theorem sc_sift {t : Int} (ht : 0 < t) : ∀ (j : Nat) (X : List Rs), sift j (sc t X) = sc t (sift j X)
  | 0, X => rfl
  | j + 1, X => by
    unfold sift
    rw [ge_sc, ge_sc]
    by_cases h : (ge X j).2 < (ge X (j + 1)).2
    · rw [if_pos h, if_pos (Int.mul_lt_mul_of_pos_right h ht), sc_swp, sc_sift ht]
    · rw [if_neg h, if_neg (fun h' => h (Int.lt_of_mul_lt_mul_right h' (by omega)))]

theorem sc_srt {t : Int} (ht : 0 < t) (L : List Rs) : ∀ k, srt (sc t L) k = sc t (srt L k)
  | 0 => rfl
  | k + 1 => by
    show sift (k + 1) (srt (sc t L) k) = sc t (sift (k + 1) (srt L k))
    rw [sc_srt ht L k, sc_sift ht]

theorem sc_enum (t : Int) (l : List Int) : enumR (l.map (· * t)) = sc t (enumR l) := by
  unfold enumR sc
  rw [List.map_map, List.length_map]
  apply List.map_congr_left
  intro i hi
  have hi' := List.mem_range.1 hi
  simp [gt, List.getD_eq_getElem?_getD, List.getElem?_eq_getElem hi']

theorem addTo_sc (t : Int) (q : List Int) (S : List Rs) : ∀ k, addTo q (sc t S) k = addTo q S k
  | 0 => rfl
  | k + 1 => by
    simp only [addTo, addTo_sc t q S k, ge_sc]

theorem sum_scale (sh : List Int) (t : Int) : (sh.map (· * t)).sum = sh.sum * t := by
  induction sh with
  | nil => simp
  | cons x xs ih => simp only [List.map_cons, List.sum_cons, ih, Int.add_mul]

theorem spl_scale (total : Int) {sh : List Int} {t : Int} (ht : 1 ≤ t) (h1 : ∀ i, i < sh.length → 0 ≤ gt sh i ∧ gt sh i ≤ 10000 ∧ gt sh i * t ≤ 10000) : spl total (sh.map (· * t)) = spl total sh := by
  have hg : ∀ i, i < sh.length → gt (sh.map (· * t)) i = gt sh i * t := fun i hi => by
    simp [gt, List.getD_eq_getElem?_getD, List.getElem?_eq_getElem hi]
  have o1 : okS sh sh.length = true := okS_iff.2 fun i hi => ⟨(h1 i hi).1, (h1 i hi).2.1⟩
  have o2 : okS (sh.map (· * t)) (sh.map (· * t)).length = true := okS_iff.2 fun i hi => by
    have hi' : i < sh.length := by simpa using hi
    rw [hg i hi']
    exact ⟨Int.mul_nonneg (h1 i hi').1 (by omega), (h1 i hi').2.2⟩
  have hs0 := sum_nn fun i hi => (h1 i hi).1
  have hsum := sum_scale sh t
  have hz : (sh.map (· * t)).sum = 0 ↔ sh.sum = 0 := by
    rw [hsum]
    refine ⟨fun h => ?_, fun h => by rw [h]; simp⟩
    rcases Int.lt_or_eq_of_le hs0 with h2 | h2
    · have := Int.mul_pos h2 (show 0 < t by omega); omega
    · exact h2.symm
  unfold spl
  rw [List.length_map] at o2
  rw [List.length_map, o1, o2]
  by_cases c1 : total < 0 ∨ 4096 < total
  · rw [if_pos c1, if_pos c1]
  rw [if_neg c1, if_neg c1]
  by_cases c2 : 16 < sh.length
  · rw [if_pos c2, if_pos c2]
  rw [if_neg c2, if_neg c2]
  simp only [Bool.true_eq_false, if_false]
  by_cases c3 : sh.sum = 0
  · rw [if_pos c3, if_pos (hz.2 c3)]
  rw [if_neg c3, if_neg (fun h => c3 (hz.1 h))]
  have hq : qs total (sh.map (· * t)) = qs total sh := by
    unfold qs
    rw [List.map_map, hsum]
    apply List.map_congr_left
    intro s _
    show total * (s * t) / (sh.sum * t) = _
    rw [← Int.mul_assoc, Int.mul_ediv_mul_of_pos_left _ _ (by omega)]
  have hl : lost total (sh.map (· * t)) = (lost total sh).map (· * t) := by
    unfold lost
    rw [List.map_map, List.map_map, hsum]
    apply List.map_congr_left
    intro s _
    show total * (s * t) % (sh.sum * t) = total * s % sh.sum * t
    rw [← Int.mul_assoc, Int.emod_def, Int.emod_def, Int.mul_ediv_mul_of_pos_left _ _ (by omega), Int.sub_mul, Int.mul_right_comm sh.sum t]
  have hso : sorted ((lost total sh).map (· * t)) = sc t (sorted (lost total sh)) := by
    unfold sorted
    rw [sc_enum, List.length_map, sc_srt (by omega)]
  have hleft : leftO total (sh.map (· * t)) = leftO total sh := by unfold leftO; rw [hq]
  rw [hq, hl, hso, addTo_sc, hleft]

end Go.Proofs.Yteajjckbjgmhaaa
end

section
namespace Go.Proofs.Yteajjckbjgmhaaa
open Go Go.AM

/-- A level. -/
structure Lv where
  nm : ByteArray
  k : Int
  s : Int
  ln : Int
  bo : Int
  q : Int
  h : Int
  le : Int
  w : Int
  g : Int

def fl (b : Lv) : List AVal := [.str b.nm, .int .i64 b.k, .int .i64 b.s, .int .i64 b.ln, .int .i64 b.bo, .int .i64 b.q, .int .i64 b.h, .int .i64 b.le, .int .i64 b.w, .int .i64 b.g]
theorem fl_fz (b : Lv) (x : AVal) (hx : x ∈ fl b) : Fz x := by
  simp only [fl, List.mem_cons, List.not_mem_nil, or_false] at hx
  rcases hx with rfl | rfl | rfl | rfl | rfl | rfl | rfl | rfl | rfl | rfl <;> first | exact .int _ _ | exact .str _
theorem fl_iff (bs : List Lv) (lim : Option Nat) : Fz (.sl (rf fl bs) lim) ↔ True := ⟨fun _ => trivial, fun _ => rf_fz fl fl_fz bs lim⟩
theorem fl_nm (p : Nat → Prop) (bs : List Lv) (lim : Option Nat) : Nm p (.sl (rf fl bs) lim) ↔ True := ⟨fun _ => trivial, fun _ => Fz.nm (rf_fz fl fl_fz bs lim) p⟩
theorem fl_all (bs : List Lv) : (∀ r, r ∈ rf fl bs → r.length = 10) = True := rf_all fl 10 (fun _ => rfl) bs

def shr (l : List Lv) : List Int := l.map (·.s)
theorem shr_length (l : List Lv) : (shr l).length = l.length := by simp [shr]

/-- What one level has. -/
def bnd (total p : Int) (x : Lv) : Bd := (p, p - p * x.ln / 100, if 0 ≤ x.bo then min total (p + p * x.bo / 100) else total)
def okL (x : Lv) : Bool := decide (0 ≤ x.ln) && decide (x.ln ≤ 100) && decide (-1 ≤ x.bo) && decide (x.bo ≤ 1000)
def bnds (total : Int) (l : List Lv) : List Bd := List.zipWith (bnd total) (parts total (shr l)) l
/-- What Bounds answers. -/
def bou (total : Int) (l : List Lv) : List Bd × Int :=
  if (spl total (shr l)).2 ≠ 0 then ([], (spl total (shr l)).2) else if l.all okL then (bnds total l, 0) else ([], 8)

theorem part_append {xs : List Int} {i : Nat} (h : i < xs.length) : (part xs i).take i ++ [gt xs i] ++ (part xs i).drop (i + 1) = part xs (i + 1) := by
  rw [← part_set h, List.set_eq_take_append_cons_drop, if_pos (by rw [part_length (by omega)]; exact h)]
  simp

/-- So many are there, the others are naught. -/
def partB (xs : List Bd) (i : Nat) : List Bd := xs.take i ++ List.replicate (xs.length - i) (0, 0, 0)
theorem partB_length {xs : List Bd} {i : Nat} (h : i ≤ xs.length) : (partB xs i).length = xs.length := by simp [partB]; omega
theorem partB_zero (xs : List Bd) : partB xs 0 = List.replicate xs.length (0, 0, 0) := by simp [partB]
theorem partB_all (xs : List Bd) : partB xs xs.length = xs := by simp [partB]
theorem partB_append {xs : List Bd} {i : Nat} {b : Bd} (h : xs[i]? = some b) : (partB xs i).take i ++ [b] ++ (partB xs i).drop (i + 1) = partB xs (i + 1) := by
  obtain ⟨hi, he⟩ := List.getElem?_eq_some_iff.1 h
  unfold partB
  rw [List.take_append_of_le_length (by simp; omega), List.take_take, Nat.min_self, List.drop_append, List.drop_eq_nil_of_le (by simp; omega), List.nil_append, List.drop_replicate, List.take_succ_eq_append_getElem hi, he]
  congr 2
  simp
  omega
theorem fb_rep (n : Nat) : List.replicate n [AVal.int .i64 0, AVal.int .i64 0, AVal.int .i64 0] = rf fb (List.replicate n (0, 0, 0)) := by simp [rf, fb]
theorem fb_onm (p : Nat → Prop) (esz : Nat) (xs : List Bd) : (Ob.arr esz (rf fb xs)).nm p ↔ True := ⟨fun _ => trivial, fun _ r hr x hx => by
  simp only [rf, List.mem_map] at hr
  obtain ⟨a, _, rfl⟩ := hr
  exact Fz.nm (fb_fz a x hx) p⟩

theorem bnds_length {total : Int} {l : List Lv} : (bnds total l).length = l.length := by
  simp [bnds, parts_length, shr_length]

theorem bnds_get {total : Int} {l : List Lv} {i : Nat} {x : Lv} (h : l[i]? = some x) : (bnds total l)[i]? = some (bnd total (gt (parts total (shr l)) i) x) := by
  have hi : i < l.length := (List.getElem?_eq_some_iff.1 h).1
  have hp : i < (parts total (shr l)).length := by rw [parts_length, shr_length]; exact hi
  rw [bnds, List.getElem?_zipWith, h, List.getElem?_eq_getElem hp]
  simp [gt, List.getD_eq_getElem?_getD, List.getElem?_eq_getElem hp]

end Go.Proofs.Yteajjckbjgmhaaa
end
