/-
  slices.SortStableFunc at a struct: merging; walked. From a template.
-/
import Derived.Test.YtdgjelfeclgolaaT1
import Derived.Test.YtdgjelfeclgolaaSB
import Derived.Test.YtdgjelfeclgolaaSN
namespace Go.Proofs.Ytdgjelfeclgolaa
open Go Go.AM
set_option maxHeartbeats 8000000
set_option maxRecDepth 8000
set_option linter.unusedSimpArgs false
set_option linter.unusedVariables false

section
variable {c : TTicket → TTicket → Int} {key : TTicket → Int}

theorem half_nat (x : Nat) : ((x : Nat) : Int).fdiv 2 = ((x / 2 : Nat) : Int) := by rw [Int.fdiv_eq_ediv_of_nonneg _ (by omega)]; omega

/-- One against many. -/
theorem symA_ok (hc : CmpOk 114 c) (hk : ∀ x y, c x y < 0 ↔ key x < key y) (d : Array TTicket) (a b : Nat) (h2 : a + 1 < b) (hb : b ≤ d.size) (hn : d.size ≤ 4294967296) (hY : Srt key (slc d (a + 1) b)) :
    HCall Try.prog 121 [.ref 0 d.size 0 d.size false d.size, .int .i64 a, .int .i64 ((a + 1 : Nat) : Int), .int .i64 b, .func (.func 114) [] []] [(0, .arr 5 (rws d.toList))] 1
    (fun r h _ => r = .tuple [] ∧ h = [(0, .arr 5 (rws (segA key d a b).toList))]) := by
  have hl0 := srl d
  have hsrt := (slc_srt hb).1 hY
  have laws : ∀ i, a + 1 ≤ i → i ≤ b → (i = a + 1 ∨ key d[i - 1]! < key d[a]!) → (i = b ∨ ¬ key d[i]! < key d[a]!) → rotA d a (a + 1) i = segA key d a b := fun i q1 q2 q3 q4 => sym_one q1 q2 hb hY q3 q4
  obtain ⟨R, hR⟩ : ∃ R, segA key d a b = R := ⟨_, rfl⟩
  rw [hR] at laws ⊢
  have hd0 : rotA d a (a + 1) (a + 1) = d := rot_self (by omega) (Nat.le_refl _) (by omega) (.inr rfl)
  generalize hN : d.size = N at *
  have u0 : ((a + 1 : Nat) : Int) - (a : Int) = 1 := by omega
  refine HCall_intro (c := Try.f121.body.getD .skip) Try.func121 rfl (by decide +kernel) (W_start ?_)
  simp only [Try.f121, go_sem]
  have zz1 := u0
  repeat' first
    | refine Z1 ?_
    | refine Zx ?_
    | (refine Ze ?_; clear hK K)
    | refine W_reg fun K hK => ?_
    | refine W_drwR rfl mixed (by decide +kernel) fun K hK => ?_
    | refine W_drw mixed (by decide +kernel) fun K hK => ?_
    | (refine Zb ?_ ?_ <;> intro hb <;> first | (simp (disch := omega) only [go_sem, zz1] at hb; done) | (simp (disch := omega) only [go_sem, zz1] at hb; try omega) | try omega)
    | (refine Zl ?_; intro bn hnil; (try simp (disch := omega) only [go_sem, zz1] at hnil); dsimp only [putT, List.set_cons_succ, List.set_cons_zero])
  refine W_foldM (fun (q : Nat × Nat) => [none, none, none, none, none, none, none, none, none, none, some (.int .i64 q.1), some (.int .i64 q.2), some .junk, none, none, none, none, none, none, none, none, none, none, none, none, none, none, none, none, none, none, some .junk, some .junk, some .junk, some .junk, some .junk, some .junk, some .junk, some .junk, some .junk, some .junk, some .junk, some .junk, some .junk, some .junk, some .junk, some .junk, some .junk, some .junk, some .junk, some .junk, some .junk, some .junk, some .junk]) (fun _ => [(0, .arr 5 (rws d.toList))]) (fun q => a + 1 ≤ q.1 ∧ q.1 ≤ q.2 ∧ q.2 ≤ b ∧ (q.1 = a + 1 ∨ key d[q.1 - 1]! < key d[a]!) ∧ (q.2 = b ∨ ¬ key d[q.2]! < key d[a]!)) (fun q => q.2 - q.1) (a + 1, b) ⟨Nat.le_refl _, by simp only []; omega, Nat.le_refl _, .inl rfl, .inl rfl⟩ (by exact weak_mk wkD wkH wkN wkM (by omega)) ?_
  rintro ⟨i, j⟩ ⟨k1, k2, k3, k4, k5⟩
  simp only [] at k1 k2 k3 k4 k5
  simp only [msk_none, msk_some, msk_nil]
  by_cases hij : i < j
  · obtain ⟨h, hh⟩ : ∃ h, (i + j) / 2 = h := ⟨_, rfl⟩
    have u1 : (i : Int) + (j : Int) = ((i + j : Nat) : Int) := by omega
    have u2 : IntKind.u64.wrap ((i + j : Nat) : Int) = ((i + j : Nat) : Int) := by rw [IntKind.wrap_u64]; omega
    have u3 := half_nat (i + j)
    rw [hh] at u3
    have u4 : IntKind.i64.wrap (h : Int) = (h : Int) := by rw [IntKind.wrap_i64]; omega
    have y1 := sget d (i := h) (by omega)
    have y2 := sget d (i := a) (by omega)
    have c1 := hc d[h]! d[a]!
    have hk1 := hk d[h]! d[a]!
    by_cases hlt : c d[h]! d[a]! < 0
    · have w1 : (h : Int) + 1 = ((h + 1 : Nat) : Int) := by omega
      have zz1 := y1
      have zz2 := y2
      have zz3 := hl0
      have zz4 := u1
      have zz5 := u2
      have zz6 := u3
      have zz7 := u4
      have zz8 := w1
      repeat' first
        | refine Z8 ?_
        | refine Zx ?_
        | refine Zc c1 ?_
        | (refine Ze ?_; clear hK K)
        | refine W_reg fun K hK => ?_
        | refine W_drwR rfl mixed (by decide +kernel) fun K hK => ?_
        | refine W_drw mixed (by decide +kernel) fun K hK => ?_
        | (refine Zb ?_ ?_ <;> intro hb <;> first | (simp (disch := omega) only [go_sem, zz1, zz2, zz3, zz4, zz5, zz6, zz7, zz8] at hb; done) | (simp (disch := omega) only [go_sem, zz1, zz2, zz3, zz4, zz5, zz6, zz7, zz8] at hb; try omega) | try omega)
        | (refine Zl ?_; intro bn hnil; (try simp (disch := omega) only [go_sem, zz1, zz2, zz3, zz4, zz5, zz6, zz7, zz8] at hnil); dsimp only [putT, List.set_cons_succ, List.set_cons_zero])
      exact L_next ⟨(h + 1, j), by simp only []; omega, ⟨by simp only []; omega, by simp only []; omega, k3, .inr (by simpa using hk1.1 hlt), k5⟩, (by exact weak_mk wkD wkH wkN wkM (by omega))⟩
    · have zz1 := y1
      have zz2 := y2
      have zz3 := hl0
      have zz4 := u1
      have zz5 := u2
      have zz6 := u3
      have zz7 := u4
      repeat' first
        | refine Z7 ?_
        | refine Zx ?_
        | refine Zc c1 ?_
        | (refine Ze ?_; clear hK K)
        | refine W_reg fun K hK => ?_
        | refine W_drwR rfl mixed (by decide +kernel) fun K hK => ?_
        | refine W_drw mixed (by decide +kernel) fun K hK => ?_
        | (refine Zb ?_ ?_ <;> intro hb <;> first | (simp (disch := omega) only [go_sem, zz1, zz2, zz3, zz4, zz5, zz6, zz7] at hb; done) | (simp (disch := omega) only [go_sem, zz1, zz2, zz3, zz4, zz5, zz6, zz7] at hb; try omega) | try omega)
        | (refine Zl ?_; intro bn hnil; (try simp (disch := omega) only [go_sem, zz1, zz2, zz3, zz4, zz5, zz6, zz7] at hnil); dsimp only [putT, List.set_cons_succ, List.set_cons_zero])
      exact L_next ⟨(i, h), by simp only []; omega, ⟨k1, by simp only []; omega, by simp only []; omega, k4, .inr (fun q => hlt (hk1.2 q))⟩, (by exact weak_mk wkD wkH wkN wkM (by omega))⟩
  · have e : j = i := by omega
    subst e
    have hfin := laws j k1 k3 k4 k5
    have u1 : (j : Int) - 1 = ((j - 1 : Nat) : Int) := by omega
    repeat' first
      | refine Z0 ?_
      | refine Zx ?_
      | (refine Ze ?_; clear hK K)
      | refine W_reg fun K hK => ?_
      | refine W_drwR rfl mixed (by decide +kernel) fun K hK => ?_
      | refine W_drw mixed (by decide +kernel) fun K hK => ?_
      | (refine Zb ?_ ?_ <;> intro hb <;> first | (simp (disch := omega) only [go_sem] at hb; done) | (simp (disch := omega) only [go_sem] at hb; try omega) | try omega)
      | (refine Zl ?_; intro bn hnil; (try simp (disch := omega) only [go_sem] at hnil); dsimp only [putT, List.set_cons_succ, List.set_cons_zero])
    refine W_foldM (fun (q : Nat × Array TTicket) => [none, none, none, none, none, none, none, none, none, none, none, none, none, some (.int .i64 q.1), none, none, none, none, none, none, none, none, none, none, none, none, none, none, none, none, none, none, none, none, none, none, none, none, none, none, none, none, none, none, none, none, none, none, none, none, none, none, none, none, none, some .junk, some .junk, some .junk, some .junk, some .junk, some .junk, some .junk, some .junk, some .junk, some .junk, some .junk, some .junk, some .junk, some .junk, some .junk, some .junk, some .junk, some .junk, some .junk, some .junk, some .junk, some .junk]) (fun q => [(0, .arr 5 (rws q.2.toList))]) (fun q => a ≤ q.1 ∧ q.1 + 1 ≤ j ∧ q.2 = rotA d a (a + 1) (q.1 + 1)) (fun q => j - q.1) (a, d) ⟨Nat.le_refl _, k1, hd0.symm⟩ (by exact weak_mk wkD wkH wkN wkM (by omega)) ?_
    rintro ⟨k, d1⟩ ⟨r1, r2, r3⟩
    simp only [] at r1 r2 r3
    simp only [msk_none, msk_some, msk_nil]
    have hs1 : d1.size = N := by rw [r3, rot_size _ (by omega) (by omega) (by omega)]; exact hN
    have hl1 := srl d1
    rw [hs1] at hl1
    by_cases hkj : k + 1 < j
    · have x1 := sget d1 (i := k) (by omega)
      have x2 := sget d1 (i := k + 1) (by omega)
      have e1 := sset d1 k d1[k + 1]!
      have e2 := ssw d1 k (k + 1)
      have e3 := ssz d1 k d1[k + 1]!
      rw [hs1] at e3
      have x3 := sget (d1.setIfInBounds k d1[k + 1]!) (i := k + 1) (by simp; omega)
      have w1 : (k : Int) + 1 = ((k + 1 : Nat) : Int) := by omega
      have hnext := rot_fwd (d := d) (a := a) (k := k) r1 (by omega)
      rw [← r3] at hnext
      simp only [enc_TTicket] at e1 e2
      have zz1 := x1
      have zz2 := x2
      have zz3 := e1
      have zz4 := e2
      have zz5 := e3
      have zz6 := x3
      have zz7 := hl1
      have zz8 := w1
      have zz9 := u1
      repeat' first
        | refine Z9 ?_
        | refine Zx ?_
        | (refine Ze ?_; clear hK K)
        | refine W_reg fun K hK => ?_
        | refine W_drwR rfl mixed (by decide +kernel) fun K hK => ?_
        | refine W_drw mixed (by decide +kernel) fun K hK => ?_
        | (refine Zb ?_ ?_ <;> intro hb <;> first | (simp (disch := omega) only [go_sem, zz1, zz2, zz3, zz4, zz5, zz6, zz7, zz8, zz9] at hb; done) | (simp (disch := omega) only [go_sem, zz1, zz2, zz3, zz4, zz5, zz6, zz7, zz8, zz9] at hb; try omega) | try omega)
        | (refine Zl ?_; intro bn hnil; (try simp (disch := omega) only [go_sem, zz1, zz2, zz3, zz4, zz5, zz6, zz7, zz8, zz9] at hnil); dsimp only [putT, List.set_cons_succ, List.set_cons_zero])
      exact L_next ⟨(k + 1, Sort.swp d1 k (k + 1)), by simp only []; omega, ⟨by simp only []; omega, by simp only []; omega, hnext⟩, (by exact weak_mk wkD wkH wkN wkM (by omega))⟩
    · have e : j = k + 1 := by omega
      rw [e] at hfin
      rw [hfin] at r3
      subst r3
      have zz1 := u1
      repeat' first
        | refine Z1 ?_
        | refine Zx ?_
        | (refine Ze ?_; clear hK K)
        | refine W_reg fun K hK => ?_
        | refine W_drwR rfl mixed (by decide +kernel) fun K hK => ?_
        | refine W_drw mixed (by decide +kernel) fun K hK => ?_
        | (refine Zb ?_ ?_ <;> intro hb <;> first | (simp (disch := omega) only [go_sem, zz1] at hb; done) | (simp (disch := omega) only [go_sem, zz1] at hb; try omega) | try omega)
        | (refine Zl ?_; intro bn hnil; (try simp (disch := omega) only [go_sem, zz1] at hnil); dsimp only [putT, List.set_cons_succ, List.set_cons_zero])
      exact Zrf

/-- Many against one. -/
theorem symB_ok (hc : CmpOk 114 c) (hk : ∀ x y, c x y < 0 ↔ key x < key y) (d : Array TTicket) (a m : Nat) (h1 : a + 1 < m) (hb : m + 1 ≤ d.size) (hn : d.size ≤ 4294967296) (hX : Srt key (slc d a m)) :
    HCall Try.prog 121 [.ref 0 d.size 0 d.size false d.size, .int .i64 a, .int .i64 m, .int .i64 ((m + 1 : Nat) : Int), .func (.func 114) [] []] [(0, .arr 5 (rws d.toList))] 1
    (fun r h _ => r = .tuple [] ∧ h = [(0, .arr 5 (rws (segA key d a (m + 1)).toList))]) := by
  have hl0 := srl d
  have hsrt := (slc_srt (by omega)).1 hX
  have laws : ∀ i, a ≤ i → i ≤ m → (i = a ∨ ¬ key d[m]! < key d[i - 1]!) → (i = m ∨ key d[m]! < key d[i]!) → rotA d i m (m + 1) = segA key d a (m + 1) := fun i q1 q2 q3 q4 => sym_last q1 q2 hb hX q3 q4
  obtain ⟨R, hR⟩ : ∃ R, segA key d a (m + 1) = R := ⟨_, rfl⟩
  rw [hR] at laws ⊢
  have hd0 : rotA d m m (m + 1) = d := rot_self (Nat.le_refl _) (by omega) hb (.inl rfl)
  generalize hN : d.size = N at *
  have u0 : ((m + 1 : Nat) : Int) - (m : Int) = 1 := by omega
  refine HCall_intro (c := Try.f121.body.getD .skip) Try.func121 rfl (by decide +kernel) (W_start ?_)
  simp only [Try.f121, go_sem]
  have zz1 := u0
  repeat' first
    | refine Z1 ?_
    | refine Zx ?_
    | (refine Ze ?_; clear hK K)
    | refine W_reg fun K hK => ?_
    | refine W_drwR rfl mixed (by decide +kernel) fun K hK => ?_
    | refine W_drw mixed (by decide +kernel) fun K hK => ?_
    | (refine Zb ?_ ?_ <;> intro hb <;> first | (simp (disch := omega) only [go_sem, zz1] at hb; done) | (simp (disch := omega) only [go_sem, zz1] at hb; try omega) | try omega)
    | (refine Zl ?_; intro bn hnil; (try simp (disch := omega) only [go_sem, zz1] at hnil); dsimp only [putT, List.set_cons_succ, List.set_cons_zero])
  refine W_foldM (fun (q : Nat × Nat) => [none, none, none, none, none, none, none, none, none, none, none, none, none, none, some (.int .i64 q.1), some (.int .i64 q.2), some .junk, none, none, none, none, none, none, none, none, none, none, none, none, none, none, none, none, none, none, none, none, none, none, none, none, none, none, none, none, none, none, none, none, none, none, none, none, none, none, none, none, none, none, none, none, none, none, none, none, none, none, none, none, none, none, none, none, none, none, none, none, none, none, none, none, none, none, some .junk, some .junk, some .junk, some .junk, some .junk, some .junk, some .junk, some .junk, some .junk, some .junk, some .junk, some .junk, some .junk, some .junk, some .junk, some .junk, some .junk, some .junk, some .junk, some .junk, some .junk, some .junk, some .junk, some .junk]) (fun _ => [(0, .arr 5 (rws d.toList))]) (fun q => a ≤ q.1 ∧ q.1 ≤ q.2 ∧ q.2 ≤ m ∧ (q.1 = a ∨ ¬ key d[m]! < key d[q.1 - 1]!) ∧ (q.2 = m ∨ key d[m]! < key d[q.2]!)) (fun q => q.2 - q.1) (a, m) ⟨Nat.le_refl _, by simp only []; omega, Nat.le_refl _, .inl rfl, .inl rfl⟩ (by exact weak_mk wkD wkH wkN wkM (by omega)) ?_
  rintro ⟨i, j⟩ ⟨k1, k2, k3, k4, k5⟩
  simp only [] at k1 k2 k3 k4 k5
  simp only [msk_none, msk_some, msk_nil]
  by_cases hij : i < j
  · obtain ⟨h, hh⟩ : ∃ h, (i + j) / 2 = h := ⟨_, rfl⟩
    have u1 : (i : Int) + (j : Int) = ((i + j : Nat) : Int) := by omega
    have u2 : IntKind.u64.wrap ((i + j : Nat) : Int) = ((i + j : Nat) : Int) := by rw [IntKind.wrap_u64]; omega
    have u3 := half_nat (i + j)
    rw [hh] at u3
    have u4 : IntKind.i64.wrap (h : Int) = (h : Int) := by rw [IntKind.wrap_i64]; omega
    have y1 := sget d (i := m) (by omega)
    have y2 := sget d (i := h) (by omega)
    have c1 := hc d[m]! d[h]!
    have hk1 := hk d[m]! d[h]!
    by_cases hlt : c d[m]! d[h]! < 0
    · have zz1 := y1
      have zz2 := y2
      have zz3 := hl0
      have zz4 := u1
      have zz5 := u2
      have zz6 := u3
      have zz7 := u4
      repeat' first
        | refine Z7 ?_
        | refine Zx ?_
        | refine Zc c1 ?_
        | (refine Ze ?_; clear hK K)
        | refine W_reg fun K hK => ?_
        | refine W_drwR rfl mixed (by decide +kernel) fun K hK => ?_
        | refine W_drw mixed (by decide +kernel) fun K hK => ?_
        | (refine Zb ?_ ?_ <;> intro hb <;> first | (simp (disch := omega) only [go_sem, zz1, zz2, zz3, zz4, zz5, zz6, zz7] at hb; done) | (simp (disch := omega) only [go_sem, zz1, zz2, zz3, zz4, zz5, zz6, zz7] at hb; try omega) | try omega)
        | (refine Zl ?_; intro bn hnil; (try simp (disch := omega) only [go_sem, zz1, zz2, zz3, zz4, zz5, zz6, zz7] at hnil); dsimp only [putT, List.set_cons_succ, List.set_cons_zero])
      exact L_next ⟨(i, h), by simp only []; omega, ⟨k1, by simp only []; omega, by simp only []; omega, k4, .inr (hk1.1 hlt)⟩, (by exact weak_mk wkD wkH wkN wkM (by omega))⟩
    · have w1 : (h : Int) + 1 = ((h + 1 : Nat) : Int) := by omega
      have zz1 := y1
      have zz2 := y2
      have zz3 := hl0
      have zz4 := u1
      have zz5 := u2
      have zz6 := u3
      have zz7 := u4
      have zz8 := w1
      repeat' first
        | refine Z8 ?_
        | refine Zx ?_
        | refine Zc c1 ?_
        | (refine Ze ?_; clear hK K)
        | refine W_reg fun K hK => ?_
        | refine W_drwR rfl mixed (by decide +kernel) fun K hK => ?_
        | refine W_drw mixed (by decide +kernel) fun K hK => ?_
        | (refine Zb ?_ ?_ <;> intro hb <;> first | (simp (disch := omega) only [go_sem, zz1, zz2, zz3, zz4, zz5, zz6, zz7, zz8] at hb; done) | (simp (disch := omega) only [go_sem, zz1, zz2, zz3, zz4, zz5, zz6, zz7, zz8] at hb; try omega) | try omega)
        | (refine Zl ?_; intro bn hnil; (try simp (disch := omega) only [go_sem, zz1, zz2, zz3, zz4, zz5, zz6, zz7, zz8] at hnil); dsimp only [putT, List.set_cons_succ, List.set_cons_zero])
      exact L_next ⟨(h + 1, j), by simp only []; omega, ⟨by simp only []; omega, by simp only []; omega, k3, .inr (by simp only [Nat.add_sub_cancel]; exact fun q => hlt (hk1.2 q)), k5⟩, (by exact weak_mk wkD wkH wkN wkM (by omega))⟩
  · have e : j = i := by omega
    subst e
    have hfin := laws j k1 k3 k4 k5
    repeat' first
      | refine Z0 ?_
      | refine Zx ?_
      | (refine Ze ?_; clear hK K)
      | refine W_reg fun K hK => ?_
      | refine W_drwR rfl mixed (by decide +kernel) fun K hK => ?_
      | refine W_drw mixed (by decide +kernel) fun K hK => ?_
      | (refine Zb ?_ ?_ <;> intro hb <;> first | (simp (disch := omega) only [go_sem] at hb; done) | (simp (disch := omega) only [go_sem] at hb; try omega) | try omega)
      | (refine Zl ?_; intro bn hnil; (try simp (disch := omega) only [go_sem] at hnil); dsimp only [putT, List.set_cons_succ, List.set_cons_zero])
    refine W_foldM (fun (q : Nat × Array TTicket) => [none, none, none, none, none, none, none, none, none, none, none, none, none, none, none, none, none, some (.int .i64 q.1), none, none, none, none, none, none, none, none, none, none, none, none, none, none, none, none, none, none, none, none, none, none, none, none, none, none, none, none, none, none, none, none, none, none, none, none, none, none, none, none, none, none, none, none, none, none, none, none, none, none, none, none, none, none, none, none, none, none, none, none, none, none, none, none, none, none, none, none, none, none, none, none, none, none, none, none, none, none, none, none, none, none, none, none, none, none, none, none, none, none, some .junk, some .junk, some .junk, some .junk, some .junk, some .junk, some .junk, some .junk, some .junk, some .junk, some .junk, some .junk, some .junk, some .junk, some .junk, some .junk, some .junk, some .junk, some .junk, some .junk, some .junk]) (fun q => [(0, .arr 5 (rws q.2.toList))]) (fun q => j ≤ q.1 ∧ q.1 ≤ m ∧ q.2 = rotA d q.1 m (m + 1)) (fun q => q.1) (m, d) ⟨k3, Nat.le_refl _, hd0.symm⟩ (by exact weak_mk wkD wkH wkN wkM (by omega)) ?_
    rintro ⟨k, d1⟩ ⟨r1, r2, r3⟩
    simp only [] at r1 r2 r3
    simp only [msk_none, msk_some, msk_nil]
    have hs1 : d1.size = N := by rw [r3, rot_size _ (by omega) (by omega) (by omega)]; exact hN
    have hl1 := srl d1
    rw [hs1] at hl1
    by_cases hkj : j < k
    · have x1 := sget d1 (i := k) (by omega)
      have x2 := sget d1 (i := k - 1) (by omega)
      have e1 := sset d1 k d1[k - 1]!
      have e2 := ssw d1 k (k - 1)
      have e3 := ssz d1 k d1[k - 1]!
      rw [hs1] at e3
      have x3 := sget (d1.setIfInBounds k d1[k - 1]!) (i := k - 1) (by simp; omega)
      have w1 : (k : Int) - 1 = ((k - 1 : Nat) : Int) := by omega
      have hnext := rot_bwd (d := d) (m := m) (k := k) (by omega) r2 (by omega)
      rw [← r3] at hnext
      simp only [enc_TTicket] at e1 e2
      have zz1 := x1
      have zz2 := x2
      have zz3 := e1
      have zz4 := e2
      have zz5 := e3
      have zz6 := x3
      have zz7 := hl1
      have zz8 := w1
      repeat' first
        | refine Z8 ?_
        | refine Zx ?_
        | (refine Ze ?_; clear hK K)
        | refine W_reg fun K hK => ?_
        | refine W_drwR rfl mixed (by decide +kernel) fun K hK => ?_
        | refine W_drw mixed (by decide +kernel) fun K hK => ?_
        | (refine Zb ?_ ?_ <;> intro hb <;> first | (simp (disch := omega) only [go_sem, zz1, zz2, zz3, zz4, zz5, zz6, zz7, zz8] at hb; done) | (simp (disch := omega) only [go_sem, zz1, zz2, zz3, zz4, zz5, zz6, zz7, zz8] at hb; try omega) | try omega)
        | (refine Zl ?_; intro bn hnil; (try simp (disch := omega) only [go_sem, zz1, zz2, zz3, zz4, zz5, zz6, zz7, zz8] at hnil); dsimp only [putT, List.set_cons_succ, List.set_cons_zero])
      exact L_next ⟨(k - 1, Sort.swp d1 k (k - 1)), by simp only []; omega, ⟨by simp only []; omega, by simp only []; omega, hnext⟩, (by exact weak_mk wkD wkH wkN wkM (by omega))⟩
    · have e : k = j := by omega
      rw [e, hfin] at r3
      subst r3
      repeat' first
        | refine Z0 ?_
        | refine Zx ?_
        | (refine Ze ?_; clear hK K)
        | refine W_reg fun K hK => ?_
        | refine W_drwR rfl mixed (by decide +kernel) fun K hK => ?_
        | refine W_drw mixed (by decide +kernel) fun K hK => ?_
        | (refine Zb ?_ ?_ <;> intro hb <;> first | (simp (disch := omega) only [go_sem] at hb; done) | (simp (disch := omega) only [go_sem] at hb; try omega) | try omega)
        | (refine Zl ?_; intro bn hnil; (try simp (disch := omega) only [go_sem] at hnil); dsimp only [putT, List.set_cons_succ, List.set_cons_zero])
      exact Zrf

end
end Go.Proofs.Ytdgjelfeclgolaa
