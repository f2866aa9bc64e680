/-
  Handing out one by one: plain laws, no program in sight.
-/
import Derived.KernelRfl
namespace Go.Proofs.Yteajjckbjgmhaaa

abbrev gt (xs : List Int) (i : Nat) : Int := xs.getD i 0

/-- Of the first places the one that has least for what it wants and may have more; -1: none may. -/
def bestGo (p h w : List Int) : Nat → Int
  | 0 => -1
  | i + 1 => if gt p i = gt h i then bestGo p h w i else
      if bestGo p h w i < 0 ∨ (gt p i + 1) * (gt w (bestGo p h w i).toNat + 1) < (gt p (bestGo p h w i).toNat + 1) * (gt w i + 1) then (i : Int) else bestGo p h w i

/-- Among the places from a on, below b. -/
def Best (p h w : List Int) (a b : Nat) (k : Int) : Prop :=
  (k = -1 ∧ ∀ i, a ≤ i → i < b → gt p i = gt h i) ∨
  ∃ n : Nat, k = n ∧ a ≤ n ∧ n < b ∧ gt p n ≠ gt h n ∧ ∀ i, a ≤ i → i < b → gt p i ≠ gt h i →
    (gt p n + 1) * (gt w i + 1) ≤ (gt p i + 1) * (gt w n + 1) ∧ (i < n → (gt p n + 1) * (gt w i + 1) < (gt p i + 1) * (gt w n + 1))

theorem Best.unique {p h w : List Int} {a b : Nat} {k k' : Int} (h1 : Best p h w a b k) (h2 : Best p h w a b k') : k = k' := by
  rcases h1 with ⟨rfl, e1⟩ | ⟨n, rfl, a1, b1, c1, d1⟩ <;> rcases h2 with ⟨rfl, e2⟩ | ⟨m, rfl, a2, b2, c2, d2⟩
  · rfl
  · exact absurd (e1 m a2 b2) c2
  · exact absurd (e2 n a1 b1) c1
  · have x1 := d1 m a2 b2 c2
    have x2 := d2 n a1 b1 c1
    rcases Nat.lt_trichotomy n m with h | h | h
    · have := x2.2 h
      omega
    · rw [h]
    · have := x1.2 h
      omega

theorem ratio_le {a b c d e f : Int} (hd : 0 < d) (hb : 0 < b) (hf : 0 < f) (h1 : a * d ≤ c * b) (h2 : c * f ≤ e * d) : a * f ≤ e * b := by
  rcases Int.lt_or_le (e * b) (a * f) with h | h
  · exfalso
    have g1 := Int.mul_lt_mul_of_pos_right h hd
    have g2 := Int.mul_le_mul_of_nonneg_right h1 (Int.le_of_lt hf)
    have g3 := Int.mul_le_mul_of_nonneg_right h2 (Int.le_of_lt hb)
    have r1 : a * f * d = a * d * f := Int.mul_right_comm a f d
    have r2 : c * b * f = c * f * b := Int.mul_right_comm c b f
    have r3 : e * d * b = e * b * d := Int.mul_right_comm e d b
    omega
  · exact h

theorem ratio_lt {a b c d e f : Int} (hd : 0 < d) (hb : 0 < b) (hf : 0 < f) (h1 : a * d < c * b) (h2 : c * f ≤ e * d) : a * f < e * b := by
  rcases Int.lt_or_le (a * f) (e * b) with h | h
  · exact h
  · exfalso
    have g1 := Int.mul_le_mul_of_nonneg_right h (Int.le_of_lt hd)
    have g2 := Int.mul_lt_mul_of_pos_right h1 hf
    have g3 := Int.mul_le_mul_of_nonneg_right h2 (Int.le_of_lt hb)
    have r1 : a * f * d = a * d * f := Int.mul_right_comm a f d
    have r2 : c * b * f = c * f * b := Int.mul_right_comm c b f
    have r3 : e * d * b = e * b * d := Int.mul_right_comm e d b
    omega

theorem bestGo_ok (p h w : List Int) (n : Nat) (hw : ∀ i, i < n → 0 ≤ gt w i) : Best p h w 0 n (bestGo p h w n) := by
  induction n with
  | zero => exact .inl ⟨rfl, fun i _ hi => by omega⟩
  | succ n ih =>
    have ih := ih fun i hi => hw i (by omega)
    unfold bestGo
    by_cases hp : gt p n = gt h n
    · rw [if_pos hp]
      rcases ih with ⟨e, e1⟩ | ⟨m, e, a1, b1, c1, d1⟩
      · exact .inl ⟨e, fun i h1 h2 => by
          rcases Nat.lt_or_ge i n with h3 | h3
          · exact e1 i h1 h3
          · rw [show i = n by omega]; exact hp⟩
      · exact .inr ⟨m, e, a1, by omega, c1, fun i h1 h2 h3 => by
          rcases Nat.lt_or_ge i n with h4 | h4
          · exact d1 i h1 h4 h3
          · rw [show i = n by omega] at h3; exact absurd hp h3⟩
    · rw [if_neg hp]
      rcases ih with ⟨e, e1⟩ | ⟨m, e, a1, b1, c1, d1⟩
      · rw [e, if_pos (.inl (by omega))]
        exact .inr ⟨n, rfl, by omega, by omega, hp, fun i h1 h2 h3 => by
          rcases Nat.lt_or_ge i n with h4 | h4
          · exact absurd (e1 i h1 h4) h3
          · rw [show i = n by omega]; exact ⟨by omega, fun h => by omega⟩⟩
      · rw [e, Int.toNat_natCast]
        have wn := hw n (by omega)
        have wm := hw m (by omega)
        by_cases hlt : (gt p n + 1) * (gt w m + 1) < (gt p m + 1) * (gt w n + 1)
        · rw [if_pos (.inr hlt)]
          refine .inr ⟨n, rfl, by omega, by omega, hp, fun i h1 h2 h3 => ?_⟩
          rcases Nat.lt_or_ge i n with h4 | h4
          · have wi := hw i (by omega)
            have hh := ratio_lt (by omega) (by omega) (by omega) hlt (d1 i h1 h4 h3).1
            exact ⟨by omega, fun _ => hh⟩
          · rw [show i = n by omega]; exact ⟨by omega, fun h => by omega⟩
        · rw [if_neg (by omega)]
          refine .inr ⟨m, rfl, a1, by omega, c1, fun i h1 h2 h3 => ?_⟩
          rcases Nat.lt_or_ge i n with h4 | h4
          · exact d1 i h1 h4 h3
          · rw [show i = n by omega]; exact ⟨by omega, fun h => by omega⟩

/-- The way from the end. -/
theorem Best.back {p h w : List Int} {i n : Nat} {k : Int} (hw : ∀ j, j < n → 0 ≤ gt w j) (hin : i < n) (b : Best p h w (i + 1) n k) :
    (gt p i ≠ gt h i → (k < 0 ∨ (gt p i + 1) * (gt w k.toNat + 1) ≤ (gt p k.toNat + 1) * (gt w i + 1)) → Best p h w i n i) ∧
    (gt p i = gt h i ∨ (0 ≤ k ∧ (gt p k.toNat + 1) * (gt w i + 1) < (gt p i + 1) * (gt w k.toNat + 1)) → Best p h w i n k) := by
  have wi := hw i hin
  rcases b with ⟨rfl, e1⟩ | ⟨m, rfl, a1, b1, c1, d1⟩
  · refine ⟨fun hp _ => .inr ⟨i, rfl, by omega, hin, hp, fun j h1 h2 h3 => ?_⟩, fun hp => .inl ⟨rfl, fun j h1 h2 => ?_⟩⟩
    · rcases Nat.lt_or_ge i j with h4 | h4
      · exact absurd (e1 j (by omega) h2) h3
      · rw [show j = i by omega]; exact ⟨by omega, fun h => by omega⟩
    · rcases Nat.lt_or_ge i j with h4 | h4
      · exact e1 j (by omega) h2
      · rw [show j = i by omega]
        rcases hp with hp | hp
        · exact hp
        · omega
  · have wm := hw m b1
    rw [Int.toNat_natCast]
    refine ⟨fun hp hc => .inr ⟨i, rfl, by omega, hin, hp, fun j h1 h2 h3 => ?_⟩, fun hc => .inr ⟨m, rfl, by omega, b1, c1, fun j h1 h2 h3 => ?_⟩⟩
    · rcases Nat.lt_or_ge i j with h4 | h4
      · have wj := hw j h2
        have hc' : (gt p i + 1) * (gt w m + 1) ≤ (gt p m + 1) * (gt w i + 1) := by omega
        have hh := ratio_le (by omega) (by omega) (by omega) hc' (d1 j (by omega) h2 h3).1
        exact ⟨hh, fun h => by omega⟩
      · rw [show j = i by omega]; exact ⟨by omega, fun h => by omega⟩
    · rcases Nat.lt_or_ge i j with h4 | h4
      · exact d1 j (by omega) h2 h3
      · have e : j = i := by omega
        subst e
        rcases hc with hc | hc
        · exact absurd hc h3
        · exact ⟨by omega, fun _ => hc.2⟩

/-- So many are handed out. -/
def run (lo h w : List Int) : Nat → List Int
  | 0 => lo
  | t + 1 => (run lo h w t).set (bestGo (run lo h w t) h w lo.length).toNat (gt (run lo h w t) (bestGo (run lo h w t) h w lo.length).toNat + 1)

theorem run_length (lo h w : List Int) (t : Nat) : (run lo h w t).length = lo.length := by
  induction t with
  | zero => rfl
  | succ t ih => simp [run, ih]

theorem gt_set {p : List Int} {k i : Nat} {v : Int} (hk : k < p.length) : gt (p.set k v) i = if i = k then v else gt p i := by
  simp only [gt, List.getD_eq_getElem?_getD, List.getElem?_set]
  by_cases h : k = i
  · subst h
    simp [hk]
  · rw [if_neg h, if_neg (fun e => h e.symm)]

theorem sum_set {p : List Int} {k : Nat} {v : Int} (hk : k < p.length) : (p.set k v).sum = p.sum - gt p k + v := by
  induction p generalizing k with
  | nil => simp at hk
  | cons x xs ih =>
    cases k with
    | zero => simp [gt]; omega
    | succ k =>
      simp only [List.set_cons_succ, List.sum_cons]
      rw [ih (by simpa using hk)]
      simp only [gt, List.getD_cons_succ]
      omega

theorem sum_le {p h : List Int} (hl : p.length = h.length) (hle : ∀ i, i < p.length → gt p i ≤ gt h i) : p.sum ≤ h.sum := by
  induction p generalizing h with
  | nil => cases h with
    | nil => exact Int.le_refl _
    | cons y ys => simp at hl
  | cons x xs ih =>
    cases h with
    | nil => simp at hl
    | cons y ys =>
      have h0 := hle 0 (by simp)
      have h1 := ih (h := ys) (by simpa using hl) fun i hi => by
        have := hle (i + 1) (by simpa using hi)
        simpa [gt] using this
      simp [gt] at h0
      simp only [List.sum_cons]
      omega

theorem sum_eq {p h : List Int} (hl : p.length = h.length) (hle : ∀ i, i < p.length → gt p i ≤ gt h i) (hs : p.sum = h.sum) : p = h := by
  induction p generalizing h with
  | nil => cases h with
    | nil => rfl
    | cons y ys => simp at hl
  | cons x xs ih =>
    cases h with
    | nil => simp at hl
    | cons y ys =>
      have h0 := hle 0 (by simp)
      have hle' : ∀ i, i < xs.length → gt xs i ≤ gt ys i := fun i hi => by
        have := hle (i + 1) (by simpa using hi)
        simpa [gt] using this
      have h1 := sum_le (h := ys) (by simpa using hl) hle'
      simp [gt] at h0
      simp only [List.sum_cons] at hs
      rw [show x = y by omega, ih (by simpa using hl) hle' (by omega)]

theorem take_sum {xs : List Int} {i : Nat} (hi : i < xs.length) : (xs.take (i + 1)).sum = (xs.take i).sum + gt xs i := by
  rw [List.take_succ_eq_append_getElem hi, List.sum_append]
  simp [gt, List.getD_eq_getElem?_getD, List.getElem?_eq_getElem hi]

/-- What Spread lets in. -/
structure Val (total : Int) (lo h w : List Int) : Prop where
  t : 0 ≤ total ∧ total ≤ 4096
  lh : lo.length = h.length
  lw : lo.length = w.length
  n : lo.length ≤ 16
  ok : ∀ i, i < lo.length → 0 ≤ gt lo i ∧ gt lo i ≤ gt h i ∧ gt h i ≤ 4096 ∧ 0 ≤ gt w i ∧ gt w i ≤ 1048576
  lo : lo.sum ≤ total
  hi : total ≤ h.sum

/-- On the way. -/
structure Way (lo h w p : List Int) (t : Nat) : Prop where
  len : p.length = lo.length
  le : ∀ i, i < lo.length → gt lo i ≤ gt p i ∧ gt p i ≤ gt h i
  sum : p.sum = lo.sum + t
  fair : ∀ i k, i < lo.length → k < lo.length → gt lo i < gt p i → gt p k < gt h k → gt p i * (gt w k + 1) ≤ (gt p k + 1) * (gt w i + 1)
  same : ∀ i k, i < lo.length → k < i → gt lo i = gt lo k → gt h i = gt h k → gt w i = gt w k → gt p i ≤ gt p k ∧ gt p k ≤ gt p i + 1

theorem way_best {total : Int} {lo h w p : List Int} {t : Nat} (v : Val total lo h w) (r : Way lo h w p t) (ht : lo.sum + t < h.sum) :
    ∃ n : Nat, bestGo p h w lo.length = n ∧ n < lo.length ∧ gt p n < gt h n ∧ ∀ i, i < lo.length → gt p i ≠ gt h i →
      (gt p n + 1) * (gt w i + 1) ≤ (gt p i + 1) * (gt w n + 1) ∧ (i < n → (gt p n + 1) * (gt w i + 1) < (gt p i + 1) * (gt w n + 1)) := by
  rcases bestGo_ok p h w lo.length fun i hi => (v.ok i hi).2.2.2.1 with ⟨_, e⟩ | ⟨n, e, _, b, c, d⟩
  · exfalso
    have h1 := sum_le (p := h) (h := p) (by rw [r.len, v.lh]) fun i hi => by
      rw [e i (by omega) (by rw [v.lh]; exact hi)]
      exact Int.le_refl _
    rw [r.sum] at h1
    omega
  · have := (r.le n b).2
    exact ⟨n, e, b, by omega, fun i hi hp => d i (by omega) hi hp⟩

theorem way_run {total : Int} {lo h w : List Int} (v : Val total lo h w) (t : Nat) (ht : lo.sum + t ≤ total) : Way lo h w (run lo h w t) t := by
  induction t with
  | zero => exact ⟨rfl, fun i hi => ⟨Int.le_refl _, (v.ok i hi).2.1⟩, by simp [run], fun i k _ _ h1 => absurd h1 (Int.lt_irrefl _), fun i k _ _ e _ _ => by simp only [run, e]; omega⟩
  | succ t ih =>
    have r := ih (by omega)
    have hv := v.hi
    obtain ⟨n, e, b, c, d⟩ := way_best v r (by omega)
    have hlen := r.len
    have hn : n < (run lo h w t).length := by omega
    have hg : ∀ i, gt (run lo h w (t + 1)) i = if i = n then gt (run lo h w t) n + 1 else gt (run lo h w t) i := fun i => by
      simp only [run, e, Int.toNat_natCast]
      exact gt_set hn
    refine ⟨by rw [run_length], fun i hi => ?_, ?_, fun i k hi hk h1 h2 => ?_, fun i k hi hk e1 e2 e3 => ?_⟩
    · rw [hg]
      have := r.le i hi
      split
      · rename_i hin; subst hin; omega
      · exact this
    · simp only [run, e, Int.toNat_natCast]
      rw [sum_set hn, r.sum]
      simp only [gt]
      omega
    · rw [hg] at h1 h2 ⊢
      rw [hg k] at *
      have wi := (v.ok i hi).2.2.2.1
      have wk := (v.ok k hk).2.2.2.1
      by_cases hin : i = n
      · subst hin
        rw [if_pos rfl] at *
        by_cases hkn : k = i
        · subst hkn
          rw [if_pos rfl]
          exact Int.mul_le_mul_of_nonneg_right (by omega) (by omega)
        · rw [if_neg hkn] at *
          exact (d k hk (by omega)).1
      · rw [if_neg hin] at *
        by_cases hkn : k = n
        · subst hkn
          rw [if_pos rfl] at *
          have h3 := r.fair i k hi hk h1 c
          have h4 := Int.mul_le_mul_of_nonneg_right (show gt (run lo h w t) k + 1 ≤ gt (run lo h w t) k + 1 + 1 by omega) (show 0 ≤ gt w i + 1 by omega)
          omega
        · rw [if_neg hkn] at *
          exact r.fair i k hi hk h1 h2
    · have s := r.same i k hi hk e1 e2 e3
      have li := r.le i hi
      have lk := r.le k (by omega)
      have wi := (v.ok i hi).2.2.2.1
      rw [hg i, hg k]
      by_cases hin : i = n
      · subst hin
        rw [if_pos rfl, if_neg (by omega)]
        by_cases hkh : gt (run lo h w t) k = gt h k
        · omega
        · have h3 := (d k (by omega) hkh).2 hk
          rw [e3] at h3
          have h4 : gt (run lo h w t) i + 1 < gt (run lo h w t) k + 1 := Int.lt_of_mul_lt_mul_right h3 (by rw [← e3]; omega)
          omega
      · rw [if_neg hin]
        by_cases hkn : k = n
        · subst hkn
          rw [if_pos rfl]
          by_cases hih : gt (run lo h w t) i = gt h i
          · omega
          · have h3 := (d i hi hih).1
            rw [e3] at h3
            have h4 : gt (run lo h w t) k + 1 ≤ gt (run lo h w t) i + 1 := Int.le_of_mul_le_mul_right h3 (by rw [← e3]; omega)
            omega
        · rw [if_neg hkn]
          exact s

/-- Is it let in? -/
def okAll (lo h w : List Int) (n : Nat) : Bool := (List.range n).all fun i => decide (0 ≤ gt lo i) && decide (gt lo i ≤ gt h i) && decide (gt h i ≤ 4096) && decide (0 ≤ gt w i) && decide (gt w i ≤ 1048576)

theorem okAll_iff {lo h w : List Int} {n : Nat} : okAll lo h w n = true ↔ ∀ i, i < n → 0 ≤ gt lo i ∧ gt lo i ≤ gt h i ∧ gt h i ≤ 4096 ∧ 0 ≤ gt w i ∧ gt w i ≤ 1048576 := by
  unfold okAll
  rw [List.all_eq_true]
  refine ⟨fun h i hi => ?_, fun h i hi => ?_⟩
  · have := h i (List.mem_range.2 hi)
    simp only [Bool.and_eq_true, decide_eq_true_eq] at this
    omega
  · have := h i (List.mem_range.1 hi)
    simp only [Bool.and_eq_true, decide_eq_true_eq]
    omega

/-- What Spread answers. -/
def spr (total : Int) (lo h w : List Int) : List Int × Int :=
  if total < 0 ∨ 4096 < total then ([], 1) else if lo.length ≠ h.length ∨ lo.length ≠ w.length then ([], 2) else if 16 < lo.length then ([], 3) else
    if okAll lo h w lo.length = false then ([], 8) else if total < lo.sum ∨ h.sum < total then ([], 6) else (run lo h w (total - lo.sum).toNat, 0)

theorem spr_cases (total : Int) (lo h w : List Int) : (∃ e, e ≠ 0 ∧ spr total lo h w = ([], e)) ∨ (Val total lo h w ∧ spr total lo h w = (run lo h w (total - lo.sum).toNat, 0)) := by
  unfold spr
  by_cases h1 : total < 0 ∨ 4096 < total
  · rw [if_pos h1]; exact .inl ⟨1, by omega, rfl⟩
  rw [if_neg h1]
  by_cases h2 : lo.length ≠ h.length ∨ lo.length ≠ w.length
  · rw [if_pos h2]; exact .inl ⟨2, by omega, rfl⟩
  rw [if_neg h2]
  by_cases h3 : 16 < lo.length
  · rw [if_pos h3]; exact .inl ⟨3, by omega, rfl⟩
  rw [if_neg h3]
  by_cases h4 : okAll lo h w lo.length = false
  · rw [if_pos h4]; exact .inl ⟨8, by omega, rfl⟩
  rw [if_neg h4]
  by_cases h5 : total < lo.sum ∨ h.sum < total
  · rw [if_pos h5]; exact .inl ⟨6, by omega, rfl⟩
  rw [if_neg h5]
  refine .inr ⟨⟨by omega, by omega, by omega, by omega, okAll_iff.1 (by simpa using h4), by omega, by omega⟩, rfl⟩

end Go.Proofs.Yteajjckbjgmhaaa
