/-
  math/bits.Div64 in full (Knuth's D), walked.
-/
import Derived.Test.YtjidlifijngcpaaF5
import Derived.Test.YtjidlifijngcpaaAM28
namespace Go.Proofs.Ytjidlifijngcpaa
open Go Go.AM
set_option maxHeartbeats 1000000
set_option linter.unusedSimpArgs false
set_option linter.unusedVariables false
attribute [local go_sem] ty3 ty4 ty22 ty39 ty43 eg39 si39 ty28 eg28

theorem shrN (a k : Nat) : (a : Int).fdiv (2 ^ k) = ((a / 2 ^ k : Nat) : Int) := by
  rw [Int.fdiv_eq_ediv_of_nonneg _ (Int.pow_nonneg (by omega)), Int.natCast_ediv, Int.natCast_pow]; rfl
theorem divN (a b : Nat) : (a : Int).tdiv b = ((a / b : Nat) : Int) := by
  rw [Int.tdiv_eq_ediv_of_nonneg (by omega), Int.natCast_ediv]


theorem mulY {Y A1 A0 : Nat} (hY : Y = A1 * 4294967296 + A0) (q : Nat) : q * Y = q * A1 * 4294967296 + q * A0 := by rw [hY, Nat.mul_add, Nat.mul_assoc]

theorem dig_lt {U Y V : Nat} (hU : U < Y) (hV : V < 4294967296) : (U * 4294967296 + V) / Y < 4294967296 := by
  rw [Nat.div_lt_iff_lt_mul (by omega)]
  omega

theorem dig_start {U Y V A1 A0 : Nat} (hY : Y = A1 * 4294967296 + A0) (h0 : A0 < 4294967296) (h1 : 2147483648 ≤ A1 ∧ A1 < 4294967296) (hU : U < Y) (hV : V < 4294967296) : (U * 4294967296 + V) / Y ≤ U / A1 ∧ U / A1 ≤ 4294967297 ∧ U / A1 * A1 + U % A1 = U ∧ U % A1 < 4294967296 := by
  refine ⟨?_, ?_, ?_, ?_⟩
  · rw [Nat.le_div_iff_mul_le (by omega)]
    have h := Nat.div_mul_le_self (U * 4294967296 + V) Y
    rw [mulY hY] at h
    generalize (U * 4294967296 + V) / Y * A1 = X at *
    omega
  · have : U / A1 < 4294967298 := by
      rw [Nat.div_lt_iff_lt_mul (by omega)]
      omega
    omega
  · rw [Nat.mul_comm]; exact Nat.div_add_mod U A1
  · have := Nat.mod_lt U (show 0 < A1 by omega)
    omega

theorem dig_stop {U Y V A1 A0 : Nat} (hY : Y = A1 * 4294967296 + A0) (h0 : A0 < 4294967296) (h1 : 2147483648 ≤ A1 ∧ A1 < 4294967296) (hU : U < Y) (hV : V < 4294967296) {q r : Nat} (he : q * A1 + r = U) (hc : q * A0 ≤ 4294967296 * r + V) : q ≤ (U * 4294967296 + V) / Y := by
  rw [Nat.le_div_iff_mul_le (by omega), mulY hY]
  generalize q * A1 = X at *
  generalize q * A0 = Z at *
  omega

theorem dig_more {U Y V A1 A0 : Nat} (hY : Y = A1 * 4294967296 + A0) (h0 : A0 < 4294967296) (h1 : 2147483648 ≤ A1 ∧ A1 < 4294967296) (hU : U < Y) (hV : V < 4294967296) {q r : Nat} (he : q * A1 + r = U) (hc : 4294967296 ≤ q ∨ 4294967296 * r + V < q * A0) : (U * 4294967296 + V) / Y < q := by
  rcases hc with hc | hc
  · have := dig_lt hU hV
    omega
  · rw [Nat.div_lt_iff_lt_mul (by omega), mulY hY]
    generalize q * A1 = X at *
    generalize q * A0 = Z at *
    omega

theorem dig_break {U Y V A1 A0 : Nat} (hY : Y = A1 * 4294967296 + A0) (h0 : A0 < 4294967296) (h1 : 2147483648 ≤ A1 ∧ A1 < 4294967296) (hU : U < Y) (hV : V < 4294967296) {q r : Nat} (he : q * A1 + r = U) (hq : q ≤ 4294967296) (hr : 4294967296 ≤ r) : q ≤ (U * 4294967296 + V) / Y := by
  refine dig_stop hY h0 h1 hU hV he ?_
  have := Nat.mul_le_mul hq (show A0 ≤ 4294967295 by omega)
  omega

theorem dig_next {U A1 q q1 r : Nat} (h : q = q1 + 1) (he : q * A1 + r = U) : q1 * A1 + (r + A1) = U := by
  subst h
  rw [Nat.add_mul] at he
  omega

theorem dig_round {U Y V A1 A0 : Nat} (hY : Y = A1 * 4294967296 + A0) (h0 : A0 < 4294967296) (h1 : 2147483648 ≤ A1 ∧ A1 < 4294967296) (hU : U < Y) (hV : V < 4294967296) {q r q1 Z Q : Nat} (hQ : Q = (U * 4294967296 + V) / Y) (hZ : Z = q * A0) (he : q * A1 + r = U) (hq1 : q1 = (q + 18446744073709551615) % 18446744073709551616) (hqm : q ≤ 4294967297) (hQq : Q ≤ q) (hr : r < 4294967296) :
    (4294967296 ≤ q ∨ 4294967296 * r + V < Z → Q < q ∧ q = q1 + 1 ∧ q1 * A1 + (r + A1) = U ∧ (4294967296 ≤ r + A1 → q1 = Q)) ∧ (Z ≤ 4294967296 * r + V → q = Q) ∧ (q < 4294967296 → Z % 18446744073709551616 = Z) := by
  subst hZ
  refine ⟨fun hc => ?_, fun hc => ?_, fun hc => ?_⟩
  · have h := dig_more hY h0 h1 hU hV he hc
    rw [← hQ] at h
    have e : q = q1 + 1 := by omega
    have e2 := dig_next e he
    refine ⟨h, e, e2, fun h3 => ?_⟩
    have h4 := dig_break hY h0 h1 hU hV e2 (by omega) h3
    rw [← hQ] at h4
    omega
  · have h := dig_stop hY h0 h1 hU hV he hc
    rw [← hQ] at h
    omega
  · refine Nat.mod_eq_of_lt ?_
    have h := Nat.mul_le_mul (show q ≤ 4294967295 by omega) (show A0 ≤ 4294967295 by omega)
    omega

theorem dig_rest {U Y V : Nat} (hU : U < Y) : (U * 4294967296 + V) / Y * Y + (U * 4294967296 + V) % Y = U * 4294967296 + V ∧ (U * 4294967296 + V) % Y < Y := by
  refine ⟨?_, Nat.mod_lt _ (by omega)⟩
  rw [Nat.mul_comm]; exact Nat.div_add_mod _ Y

theorem div64_full (hi lo y s : Nat) (hy : hi < y) (hy2 : y < 18446744073709551616) (hlo : lo < 18446744073709551616) (hh : 0 < hi) (hs : s ≤ 63) (hs2 : (64 - (Lib.bitLen y : Int)) = s) (hn : 9223372036854775808 ≤ y * 2 ^ s) (hn2 : y * 2 ^ s < 18446744073709551616) :
    PCall Try.prog 28 [.int .u64 hi, .int .u64 lo, .int .u64 y] (· = .tuple [.int .u64 ((((hi * 18446744073709551616 + lo) / y : Nat)) : Int), .int .u64 (((hi * 18446744073709551616 + lo) % y : Nat) : Int)]) := by
  have lz := lz64_ok (y : Int) (by omega) (by omega)
  rw [Int.toNat_natCast, hs2] at lz
  have hy0 : ¬ (y : Int) = 0 := by omega
  have hyh : ¬ (y : Int) ≤ hi := by omega
  have hh0 : ¬ (hi : Int) = 0 := by omega
  have ew : IntKind.u64.wrap (s : Int) = s := wrap_id (by omega) (by omega)
  have es1 : ¬ (s : Int) < 0 := by omega
  have es2 : (s : Int).toNat = s := by omega
  have es3 : min s 64 = s := by omega
  have es4 : IntKind.u64.wrap (64 - (s : Int)) = ((64 - s : Nat) : Int) := by rw [IntKind.wrap_u64]; omega
  have es5 : ¬ ((64 - s : Nat) : Int) < 0 := by omega
  have es6 : ((64 - s : Nat) : Int).toNat = 64 - s := by omega
  have es7 : min (64 - s) 64 = 64 - s := by omega
  obtain ⟨Y, hY⟩ : ∃ Y, Y = y * 2 ^ s := ⟨_, rfl⟩
  obtain ⟨A1, hA1⟩ : ∃ A, A = Y / 4294967296 := ⟨_, rfl⟩
  obtain ⟨A0, hA0⟩ : ∃ A, A = Y % 4294967296 := ⟨_, rfl⟩
  obtain ⟨H, hH⟩ : ∃ A, A = hi * 2 ^ s := ⟨_, rfl⟩
  obtain ⟨L, hL⟩ : ∃ A, A = lo / 2 ^ (64 - s) := ⟨_, rfl⟩
  obtain ⟨U, hU⟩ : ∃ A, A = H + L := ⟨_, rfl⟩
  obtain ⟨V, hV⟩ : ∃ A, A = lo * 2 ^ s % 18446744073709551616 := ⟨_, rfl⟩
  obtain ⟨V1, hV1⟩ : ∃ A, A = V / 4294967296 := ⟨_, rfl⟩
  obtain ⟨V0, hV0⟩ : ∃ A, A = V % 4294967296 := ⟨_, rfl⟩
  obtain ⟨q, hq⟩ : ∃ A, A = U / A1 := ⟨_, rfl⟩
  obtain ⟨r, hr⟩ : ∃ A, A = U % A1 := ⟨_, rfl⟩
  have hY0 : Y = A1 * 4294967296 + A0 := by omega
  have hA0l : A0 < 4294967296 := by omega
  have hA1l : 2147483648 ≤ A1 ∧ A1 < 4294967296 := by omega
  have hV1l : V1 < 4294967296 := by omega
  have hV0l : V0 < 4294967296 := by omega
  have hpow : 2 ^ (64 - s) * 2 ^ s = 18446744073709551616 := by rw [← Nat.pow_add, show 64 - s + s = 64 by omega]
  have hps : 0 < 2 ^ s := Nat.pow_pos (by omega)
  have hLd : lo * 2 ^ s / 18446744073709551616 = L := by
    rw [← hpow, Nat.mul_div_mul_right _ _ hps, hL]
  have hUV : U * 18446744073709551616 + V = (hi * 18446744073709551616 + lo) * 2 ^ s := by
    have := Nat.div_add_mod (lo * 2 ^ s) 18446744073709551616
    rw [hLd, ← hV] at this
    rw [Nat.add_mul, Nat.mul_right_comm, ← hH, hU]
    omega
  have hLs : L < 2 ^ s := by
    rw [hL, Nat.div_lt_iff_lt_mul (Nat.pow_pos (by omega)), Nat.mul_comm, hpow]
    exact hlo
  have hUY : U < Y := by
    have h := Nat.mul_le_mul_right (2 ^ s) (show hi + 1 ≤ y by omega)
    rw [Nat.add_mul, Nat.one_mul, ← hH, ← hY] at h
    omega
  have hHY : H < 18446744073709551616 := by omega
  obtain ⟨Q1, hQ1⟩ : ∃ A, A = (U * 4294967296 + V1) / Y := ⟨_, rfl⟩
  obtain ⟨R1, hR1⟩ : ∃ A, A = (U * 4294967296 + V1) % Y := ⟨_, rfl⟩
  obtain ⟨Q2, hQ2⟩ : ∃ A, A = (R1 * 4294967296 + V0) / Y := ⟨_, rfl⟩
  obtain ⟨R2, hR2⟩ : ∃ A, A = (R1 * 4294967296 + V0) % Y := ⟨_, rfl⟩
  obtain ⟨q2, hq2⟩ : ∃ A, A = R1 / A1 := ⟨_, rfl⟩
  obtain ⟨r2, hr2⟩ : ∃ A, A = R1 % A1 := ⟨_, rfl⟩
  have c1 := dig_rest (V := V1) hUY
  rw [← hQ1, ← hR1] at c1
  have hRY : R1 < Y := c1.2
  have c2 := dig_rest (V := V0) hRY
  rw [← hQ2, ← hR2] at c2
  have d1 := dig_start hY0 hA0l hA1l hUY hV1l
  rw [← hQ1, ← hq, ← hr] at d1
  have d2 := dig_start hY0 hA0l hA1l hRY hV0l
  rw [← hQ2, ← hq2, ← hr2] at d2
  have b1 := dig_lt hUY hV1l
  rw [← hQ1] at b1
  have b2 := dig_lt hRY hV0l
  rw [← hQ2] at b2
  have hfin : Q1 * 4294967296 + Q2 = (hi * 18446744073709551616 + lo) / y ∧ R2 / 2 ^ s = (hi * 18446744073709551616 + lo) % y := by
    have e1 : U * 18446744073709551616 + V = (Q1 * 4294967296 + Q2) * Y + R2 := by
      rw [Nat.add_mul, Nat.mul_right_comm]
      generalize Q1 * Y = X at *
      generalize Q2 * Y = Z at *
      omega
    rw [hUV] at e1
    have e2 : (hi * 18446744073709551616 + lo) * 2 ^ s / Y = Q1 * 4294967296 + Q2 := by
      rw [e1, Nat.mul_comm, Nat.mul_add_div (by omega), Nat.div_eq_of_lt c2.2, Nat.add_zero]
    have e3 : (hi * 18446744073709551616 + lo) * 2 ^ s % Y = R2 := by
      rw [e1, Nat.mul_comm, Nat.mul_add_mod, Nat.mod_eq_of_lt c2.2]
    rw [hY, Nat.mul_div_mul_right _ _ hps] at e2
    rw [hY, Nat.mul_mod_mul_right] at e3
    exact ⟨e2.symm, by rw [← e3, Nat.mul_div_cancel _ hps]⟩
  have f1 : IntKind.u64.wrap ((y : Int) * 2 ^ s) = (Y : Int) := by
    have : (y : Int) * 2 ^ s = (Y : Int) := by rw [hY]; simp
    rw [this, wrapN _ (by omega)]
  have f2 : (Y : Int).fdiv 4294967296 = (A1 : Int) := by rw [fdN, hA1]
  have f3 : band .u64 (Y : Int) 4294967295 = (A0 : Int) := by rw [maskN _ (by omega), hA0]
  have f4 : IntKind.u64.wrap ((hi : Int) * 2 ^ s) = (H : Int) := by
    have : (hi : Int) * 2 ^ s = (H : Int) := by rw [hH]; simp
    rw [this, wrapN _ (by omega)]
  have f5 : (lo : Int).fdiv (2 ^ (64 - s)) = (L : Int) := by rw [shrN, hL]
  have f6 : bor .u64 (H : Int) (L : Int) = (U : Int) := by
    have h := bits_or_u64_nat H L hHY (by omega)
    rw [hH, Nat.mul_comm, ← Nat.two_pow_add_eq_or_of_lt hLs, Nat.mul_comm, ← hH, ← hU] at h
    exact h
  have f7 : IntKind.u64.wrap ((lo : Int) * 2 ^ s) = (V : Int) := by
    have : (lo : Int) * 2 ^ s = ((lo * 2 ^ s : Nat) : Int) := by simp
    rw [this, wrapM, hV]
  have f8 : (V : Int).fdiv 4294967296 = (V1 : Int) := by rw [fdN, hV1]
  have f9 : band .u64 (V : Int) 4294967295 = (V0 : Int) := by rw [maskN _ (by omega), hV0]
  have f10 : ¬ (A1 : Int) = 0 := by omega
  have f11 : IntKind.u64.wrap ((U : Int).tdiv A1) = (q : Int) := by rw [divN, ← hq, wrapN _ (by omega)]
  have f12 : IntKind.u64.wrap ((U : Int) - IntKind.u64.wrap ((q : Int) * A1)) = (r : Int) := by
    rw [mulN, wrapN _ (by omega), wrap_id (by omega) (by omega)]
    omega
  have f13 : IntKind.u64.wrap (IntKind.u64.wrap (IntKind.u64.wrap ((U : Int) * 4294967296) + V1) - IntKind.u64.wrap ((Q1 : Int) * Y)) = (R1 : Int) := by
    rw [mulN]
    generalize Q1 * Y = X at *
    simp only [IntKind.wrap_u64]
    omega
  have f14 : IntKind.u64.wrap ((R1 : Int).tdiv A1) = (q2 : Int) := by rw [divN, ← hq2, wrapN _ (by omega)]
  have f15 : IntKind.u64.wrap ((R1 : Int) - IntKind.u64.wrap ((q2 : Int) * A1)) = (r2 : Int) := by
    rw [mulN, wrapN _ (by omega), wrap_id (by omega) (by omega)]
    omega
  have f16 : IntKind.u64.wrap (IntKind.u64.wrap (IntKind.u64.wrap ((R1 : Int) * 4294967296) + V0) - IntKind.u64.wrap ((Q2 : Int) * Y)) = (R2 : Int) := by
    rw [mulN]
    generalize Q2 * Y = X at *
    simp only [IntKind.wrap_u64]
    omega
  have f17 : (R2 : Int).fdiv (2 ^ s) = ((R2 / 2 ^ s : Nat) : Int) := shrN _ _
  have f18 : IntKind.u64.wrap (IntKind.u64.wrap ((Q1 : Int) * 4294967296) + Q2) = ((Q1 * 4294967296 + Q2 : Nat) : Int) := by
    simp only [IntKind.wrap_u64]
    omega
  refine PCall_intro (c := Try.f28.body.getD .skip) Try.func28 rfl (by decide +kernel) (by simp [Fz.int_iff, Fz.bool_iff, Fz.agg_iff, Fz.str_iff]) (W_start ?_)
  simp only [Try.f28, go_sem, Nat.reduceAdd, Nat.reduceSub]
  repeat' first
    | with_reducible refine W_seq ?_
    | with_reducible refine W_block ?_
    | with_reducible refine W_skip ?_
    | with_reducible refine N_code ?_
    | with_reducible refine N_blk ?_
    | with_reducible refine W_exit ?_
    | with_reducible refine E_blk ?_
    | with_reducible refine E_code ?_
    | with_reducible refine E_blk_ne (by decide) ?_
    | with_reducible refine W_ret ?_
    | with_reducible refine R_code ?_
    | with_reducible refine R_blk ?_
    | with_reducible refine R_nil ?_
    | with_reducible refine L_exit ?_
    | with_reducible refine L_ret ?_
    | with_reducible refine F_ret ?_
    | with_reducible refine F_out (by decide) ?_
    | ((with_reducible apply W_condE); (case hb => exact rfl); (case e1 => simp only [putT, List.set_cons_succ, List.set_cons_zero]; exact rfl); (case e2 => simp only [putT, List.set_cons_succ, List.set_cons_zero]; exact rfl); all_goals (intro hb; first | (exfalso; revert hb; simp; done) | (exfalso; simp at hb; omega) | simp only [beq_iff_eq, beq_eq_false_iff_ne, bne_iff_ne, bne_eq_false_iff_eq, ne_eq, decide_eq_true_eq, decide_eq_false_iff_not, Int.not_lt, Int.not_le] at hb | skip))
    | (with_reducible refine W_reg fun K hK => ?_)
    | (with_reducible refine W_drw mixed (by decide +kernel) fun K hK => ?_)
    | ((with_reducible refine AO_nil (hK _ ?_)); clear hK K)
    | ((with_reducible apply AO_stepE); (case hg => first | exact guardA_none rfl | exact guardA_yes rfl rfl rfl (by with_reducible rfl)); (case hs => simp (maxSteps := 2000000) only [go_sem, true_implies, false_implies, implies_true, reduceCtorEq, and_true, true_and, Nat.reduceAdd, Nat.reduceSub, Nat.reduceMul, Nat.reduceLT, Nat.reduceLeDiff, Nat.reduceEqDiff, Nat.reduceBEq, if_true, if_false, ite_true, ite_false, reduceIte, Bool.false_eq_true, Bool.true_eq_false, Bool.not_true, Bool.not_false, beq_self_eq_true, decide_true, decide_false, Int.reduceNeg, Int.reduceLT, Int.reduceLE, Int.reduceEq, Int.reduceToNat, Int.reducePow, Nat.reducePow, Nat.min_eq_left, Nat.min_eq_right, Int.reduceMul, Int.reduceAdd, Int.reduceSub, Int.reduceBEq, Int.reduceBNe, bne_self_eq_false, beq_true, beq_false, hy0, hyh, hh0, ew, es1, es2, es3, es4, es5, es6, es7, f1, f2, f3, f4, f5, f6, f7, f8, f9, f10, f11, f12]; exact rfl); (case ht => simp only [putT, List.set_cons_succ, List.set_cons_zero]; exact rfl); (case hn => first | (simp only [Nat.reduceAdd]; exact rfl) | exact rfl))
    | ((with_reducible apply AO_skipE); (case hg => first | exact guardA_gone rfl rfl rfl | exact guardA_noT rfl rfl rfl (by with_reducible rfl) | exact guardA_noF rfl rfl rfl (by with_reducible rfl)); (case ht => simp only [putT, List.set_cons_succ, List.set_cons_zero]; exact rfl); (case hn => first | (simp only [Nat.reduceAdd]; exact rfl) | exact rfl))
    | ((with_reducible apply D_end); (case hi => exact rfl); (case hind => first | exact indepB_old hnx (by omega) (by kernel_rfl) (by kernel_rfl) | kernel_rfl); (case hn => first | (simp only [Nat.reduceAdd]; exact rfl) | exact rfl); (with_reducible refine hK _ ?_); clear hK K)
    | ((with_reducible apply D_stepE); (case hg => first | exact guardA_none rfl | exact guardA_yes rfl rfl rfl (by with_reducible rfl)); (case hs => simp (maxSteps := 2000000) only [go_sem, true_implies, false_implies, implies_true, reduceCtorEq, and_true, true_and, Nat.reduceAdd, Nat.reduceSub, Nat.reduceMul, Nat.reduceLT, Nat.reduceLeDiff, Nat.reduceEqDiff, Nat.reduceBEq, if_true, if_false, ite_true, ite_false, reduceIte, Bool.false_eq_true, Bool.true_eq_false, Bool.not_true, Bool.not_false, beq_self_eq_true, decide_true, decide_false, Int.reduceNeg, Int.reduceLT, Int.reduceLE, Int.reduceEq, Int.reduceToNat, Int.reducePow, Nat.reducePow, Nat.min_eq_left, Nat.min_eq_right, Int.reduceMul, Int.reduceAdd, Int.reduceSub, Int.reduceBEq, Int.reduceBNe, bne_self_eq_false, beq_true, beq_false, hy0, hyh, hh0, ew, es1, es2, es3, es4, es5, es6, es7, f1, f2, f3, f4, f5, f6, f7, f8, f9, f10, f11, f12]; exact rfl); (case ht => simp only [putT, List.set_cons_succ, List.set_cons_zero]; exact rfl); (case hn => first | (simp only [Nat.reduceAdd]; exact rfl) | exact rfl); (case hc => exact rfl))
    | ((with_reducible apply D_skipE); (case hg => first | exact guardA_gone rfl rfl rfl | exact guardA_noT rfl rfl rfl (by with_reducible rfl) | exact guardA_noF rfl rfl rfl (by with_reducible rfl)); (case ht => simp only [putT, List.set_cons_succ, List.set_cons_zero]; exact rfl); (case hn => first | (simp only [Nat.reduceAdd]; exact rfl) | exact rfl); (case hc => exact rfl))
    | ((with_reducible apply AO_callE); (case hg => first | exact guardA_none rfl | exact guardA_yes rfl rfl rfl (by with_reducible rfl)); (case ho => exact rfl); (case ht => exact rfl); (case hp' => first | exact lz); (case htm => simp only [putT, List.set_cons_succ, List.set_cons_zero]; exact rfl); (case hn => first | (simp only [Nat.reduceAdd]; exact rfl) | exact rfl))
    | ((with_reducible apply D_callE); (case hg => first | exact guardA_none rfl | exact guardA_yes rfl rfl rfl (by with_reducible rfl)); (case ho => exact rfl); (case ht => exact rfl); (case hp' => first | exact lz); (case htm => simp only [putT, List.set_cons_succ, List.set_cons_zero]; exact rfl); (case hn => first | (simp only [Nat.reduceAdd]; exact rfl) | exact rfl); (case hc => exact rfl))
    | ((fail_if_success ((with_reducible apply AO_stepE); (case hg => first | exact guardA_none rfl | exact guardA_yes rfl rfl rfl (by with_reducible rfl)))); (fail_if_success ((with_reducible apply AO_skipE); (case hg => first | exact guardA_gone rfl rfl rfl | exact guardA_noT rfl rfl rfl (by with_reducible rfl) | exact guardA_noF rfl rfl rfl (by with_reducible rfl)))); (with_reducible apply AO_split); (case hg => exact rfl); (case hd => exact rfl); (case hb => exact rfl); (case e1 => simp only [putT, List.set_cons_succ, List.set_cons_zero]; exact rfl); (case e2 => simp only [putT, List.set_cons_succ, List.set_cons_zero]; exact rfl); all_goals intro hg)
    | ((fail_if_success ((with_reducible apply D_stepE); (case hg => first | exact guardA_none rfl | exact guardA_yes rfl rfl rfl (by with_reducible rfl)))); (fail_if_success ((with_reducible apply D_skipE); (case hg => first | exact guardA_gone rfl rfl rfl | exact guardA_noT rfl rfl rfl (by with_reducible rfl) | exact guardA_noF rfl rfl rfl (by with_reducible rfl)))); (with_reducible apply D_split); (case hg => exact rfl); (case hd => exact rfl); (case hb => exact rfl); (case e1 => simp only [putT, List.set_cons_succ, List.set_cons_zero]; exact rfl); (case e2 => simp only [putT, List.set_cons_succ, List.set_cons_zero]; exact rfl); all_goals intro hg)
  refine W_for (fun m s2 => ∃ (qh rh nx : Nat), m = qh ∧ qh * A1 + rh = U ∧ Q1 ≤ qh ∧ qh ≤ 4294967297 ∧ rh < 4294967296 ∧ s2 = ⟨[.int .u64 hi, .int .u64 lo, .int .u64 Y, .junk, .junk, .junk, .int .u64 0, .int .u64 0, .int .u64 s, .int .u64 A1, .int .u64 A0, .int .u64 U, .int .u64 V, .int .u64 V1, .int .u64 V0, .int .u64 qh, .int .u64 rh, .junk, .junk, .junk, .junk, .junk, .junk, .junk, .junk, .junk, .junk, .junk, .junk, .junk, .junk, .junk, .junk, .junk, .junk, .junk, .junk, .junk, .junk, .junk, .junk, .junk, .junk, .junk, .junk, .junk, .junk, .junk, .junk, .junk, .junk, .junk, .junk, .junk, .junk, .junk, .junk, .junk, .junk, .junk, .junk, .junk, .junk, .junk, .junk, .junk, .junk, .junk, .junk, .junk, .junk, .junk, .junk, .junk, .junk, .junk, .junk, .junk, .junk, .junk, .junk, .junk, .junk, .junk, .junk, .junk, .junk, .junk, .junk, .junk, .junk, .junk, .junk, .junk, .junk, .junk, .junk, .junk, .junk, .junk, .junk, .junk, .junk, .junk, .junk, .junk, .junk, .junk, .junk, .junk, .junk, .junk, .junk, .junk, .junk, .junk, .junk, .junk, .junk, .junk, .junk, .junk, .junk, .junk, .junk, .junk, .junk, .junk, .junk, .junk, .junk, .junk, .junk, .junk, .junk], [], nx⟩)
    (fun s2 => ∃ nx : Nat, s2 = ⟨[.int .u64 hi, .int .u64 lo, .int .u64 Y, .junk, .junk, .junk, .int .u64 0, .int .u64 0, .int .u64 s, .int .u64 A1, .int .u64 A0, .int .u64 U, .int .u64 V, .int .u64 V1, .int .u64 V0, .int .u64 Q1, .junk, .junk, .junk, .junk, .junk, .junk, .junk, .junk, .junk, .junk, .junk, .junk, .junk, .junk, .junk, .junk, .junk, .junk, .junk, .junk, .junk, .junk, .junk, .junk, .junk, .junk, .junk, .junk, .junk, .junk, .junk, .junk, .junk, .junk, .junk, .junk, .junk, .junk, .junk, .junk, .junk, .junk, .junk, .junk, .junk, .junk, .junk, .junk, .junk, .junk, .junk, .junk, .junk, .junk, .junk, .junk, .junk, .junk, .junk, .junk, .junk, .junk, .junk, .junk, .junk, .junk, .junk, .junk, .junk, .junk, .junk, .junk, .junk, .junk, .junk, .junk, .junk, .junk, .junk, .junk, .junk, .junk, .junk, .junk, .junk, .junk, .junk, .junk, .junk, .junk, .junk, .junk, .junk, .junk, .junk, .junk, .junk, .junk, .junk, .junk, .junk, .junk, .junk, .junk, .junk, .junk, .junk, .junk, .junk, .junk, .junk, .junk, .junk, .junk, .junk, .junk, .junk, .junk, .junk], [], nx⟩)
    _ _ ⟨q, r, _, rfl, d1.2.2.1, d1.1, d1.2.1, d1.2.2.2, rfl⟩ ⟨by simp [dropL], rfl, rfl⟩ ?_ ?_
  · rintro s2 ⟨nx, rfl⟩
    repeat' first
      | with_reducible refine W_seq ?_
      | with_reducible refine W_block ?_
      | with_reducible refine W_skip ?_
      | with_reducible refine N_code ?_
      | with_reducible refine N_blk ?_
      | with_reducible refine W_exit ?_
      | with_reducible refine E_blk ?_
      | with_reducible refine E_code ?_
      | with_reducible refine E_blk_ne (by decide) ?_
      | with_reducible refine W_ret ?_
      | with_reducible refine R_code ?_
      | with_reducible refine R_blk ?_
      | with_reducible refine R_nil ?_
      | with_reducible refine L_exit ?_
      | with_reducible refine L_ret ?_
      | with_reducible refine F_ret ?_
      | with_reducible refine F_out (by decide) ?_
      | ((with_reducible apply W_condE); (case hb => exact rfl); (case e1 => simp only [putT, List.set_cons_succ, List.set_cons_zero]; exact rfl); (case e2 => simp only [putT, List.set_cons_succ, List.set_cons_zero]; exact rfl); all_goals (intro hb; first | (exfalso; revert hb; simp; done) | (exfalso; simp at hb; omega) | simp only [beq_iff_eq, beq_eq_false_iff_ne, bne_iff_ne, bne_eq_false_iff_eq, ne_eq, decide_eq_true_eq, decide_eq_false_iff_not, Int.not_lt, Int.not_le] at hb | skip))
      | (with_reducible refine W_reg fun K hK => ?_)
      | (with_reducible refine W_drw mixed (by decide +kernel) fun K hK => ?_)
      | ((with_reducible refine AO_nil (hK _ ?_)); clear hK K)
      | ((with_reducible apply AO_stepE); (case hg => first | exact guardA_none rfl | exact guardA_yes rfl rfl rfl (by with_reducible rfl)); (case hs => simp (maxSteps := 2000000) only [go_sem, true_implies, false_implies, implies_true, reduceCtorEq, and_true, true_and, Nat.reduceAdd, Nat.reduceSub, Nat.reduceMul, Nat.reduceLT, Nat.reduceLeDiff, Nat.reduceEqDiff, Nat.reduceBEq, if_true, if_false, ite_true, ite_false, reduceIte, Bool.false_eq_true, Bool.true_eq_false, Bool.not_true, Bool.not_false, beq_self_eq_true, decide_true, decide_false, Int.reduceNeg, Int.reduceLT, Int.reduceLE, Int.reduceEq, Int.reduceToNat, Int.reducePow, Nat.reducePow, Nat.min_eq_left, Nat.min_eq_right, Int.reduceMul, Int.reduceAdd, Int.reduceSub, Int.reduceBEq, Int.reduceBNe, bne_self_eq_false, beq_true, beq_false, es1, es2, es3, f10, f13, f14, f15, f17]; exact rfl); (case ht => simp only [putT, List.set_cons_succ, List.set_cons_zero]; exact rfl); (case hn => first | (simp only [Nat.reduceAdd]; exact rfl) | exact rfl))
      | ((with_reducible apply AO_skipE); (case hg => first | exact guardA_gone rfl rfl rfl | exact guardA_noT rfl rfl rfl (by with_reducible rfl) | exact guardA_noF rfl rfl rfl (by with_reducible rfl)); (case ht => simp only [putT, List.set_cons_succ, List.set_cons_zero]; exact rfl); (case hn => first | (simp only [Nat.reduceAdd]; exact rfl) | exact rfl))
      | ((with_reducible apply D_end); (case hi => exact rfl); (case hind => first | exact indepB_old hnx (by omega) (by kernel_rfl) (by kernel_rfl) | kernel_rfl); (case hn => first | (simp only [Nat.reduceAdd]; exact rfl) | exact rfl); (with_reducible refine hK _ ?_); clear hK K)
      | ((with_reducible apply D_stepE); (case hg => first | exact guardA_none rfl | exact guardA_yes rfl rfl rfl (by with_reducible rfl)); (case hs => simp (maxSteps := 2000000) only [go_sem, true_implies, false_implies, implies_true, reduceCtorEq, and_true, true_and, Nat.reduceAdd, Nat.reduceSub, Nat.reduceMul, Nat.reduceLT, Nat.reduceLeDiff, Nat.reduceEqDiff, Nat.reduceBEq, if_true, if_false, ite_true, ite_false, reduceIte, Bool.false_eq_true, Bool.true_eq_false, Bool.not_true, Bool.not_false, beq_self_eq_true, decide_true, decide_false, Int.reduceNeg, Int.reduceLT, Int.reduceLE, Int.reduceEq, Int.reduceToNat, Int.reducePow, Nat.reducePow, Nat.min_eq_left, Nat.min_eq_right, Int.reduceMul, Int.reduceAdd, Int.reduceSub, Int.reduceBEq, Int.reduceBNe, bne_self_eq_false, beq_true, beq_false, es1, es2, es3, f10, f13, f14, f15, f17]; exact rfl); (case ht => simp only [putT, List.set_cons_succ, List.set_cons_zero]; exact rfl); (case hn => first | (simp only [Nat.reduceAdd]; exact rfl) | exact rfl); (case hc => exact rfl))
      | ((with_reducible apply D_skipE); (case hg => first | exact guardA_gone rfl rfl rfl | exact guardA_noT rfl rfl rfl (by with_reducible rfl) | exact guardA_noF rfl rfl rfl (by with_reducible rfl)); (case ht => simp only [putT, List.set_cons_succ, List.set_cons_zero]; exact rfl); (case hn => first | (simp only [Nat.reduceAdd]; exact rfl) | exact rfl); (case hc => exact rfl))
      | ((fail_if_success ((with_reducible apply AO_stepE); (case hg => first | exact guardA_none rfl | exact guardA_yes rfl rfl rfl (by with_reducible rfl)))); (fail_if_success ((with_reducible apply AO_skipE); (case hg => first | exact guardA_gone rfl rfl rfl | exact guardA_noT rfl rfl rfl (by with_reducible rfl) | exact guardA_noF rfl rfl rfl (by with_reducible rfl)))); (with_reducible apply AO_split); (case hg => exact rfl); (case hd => exact rfl); (case hb => exact rfl); (case e1 => simp only [putT, List.set_cons_succ, List.set_cons_zero]; exact rfl); (case e2 => simp only [putT, List.set_cons_succ, List.set_cons_zero]; exact rfl); all_goals intro hg)
      | ((fail_if_success ((with_reducible apply D_stepE); (case hg => first | exact guardA_none rfl | exact guardA_yes rfl rfl rfl (by with_reducible rfl)))); (fail_if_success ((with_reducible apply D_skipE); (case hg => first | exact guardA_gone rfl rfl rfl | exact guardA_noT rfl rfl rfl (by with_reducible rfl) | exact guardA_noF rfl rfl rfl (by with_reducible rfl)))); (with_reducible apply D_split); (case hg => exact rfl); (case hd => exact rfl); (case hb => exact rfl); (case e1 => simp only [putT, List.set_cons_succ, List.set_cons_zero]; exact rfl); (case e2 => simp only [putT, List.set_cons_succ, List.set_cons_zero]; exact rfl); all_goals intro hg)
    refine W_for (fun m s2 => ∃ (qh rh nx : Nat), m = qh ∧ qh * A1 + rh = R1 ∧ Q2 ≤ qh ∧ qh ≤ 4294967297 ∧ rh < 4294967296 ∧ s2 = ⟨[.int .u64 hi, .int .u64 lo, .int .u64 Y, .junk, .junk, .junk, .int .u64 0, .int .u64 0, .int .u64 s, .int .u64 A1, .int .u64 A0, .int .u64 U, .int .u64 V, .int .u64 V1, .int .u64 V0, .int .u64 Q1, .int .u64 rh, .int .u64 R1, .int .u64 qh, .junk, .junk, .junk, .junk, .junk, .junk, .junk, .junk, .junk, .junk, .junk, .junk, .junk, .junk, .junk, .junk, .junk, .junk, .junk, .junk, .junk, .junk, .junk, .junk, .junk, .junk, .junk, .junk, .junk, .junk, .junk, .junk, .junk, .junk, .junk, .junk, .junk, .junk, .junk, .junk, .junk, .junk, .junk, .junk, .junk, .junk, .junk, .junk, .junk, .junk, .junk, .junk, .junk, .junk, .junk, .junk, .junk, .junk, .junk, .junk, .junk, .junk, .junk, .junk, .junk, .junk, .junk, .junk, .junk, .junk, .junk, .junk, .junk, .junk, .junk, .junk, .junk, .junk, .junk, .junk, .junk, .junk, .junk, .junk, .junk, .junk, .junk, .junk, .junk, .junk, .junk, .junk, .junk, .junk, .junk, .junk, .junk, .junk, .junk, .junk, .junk, .junk, .junk, .junk, .junk, .junk, .junk, .junk, .junk, .junk, .junk, .junk, .junk, .junk, .junk, .junk], [], nx⟩)
      (fun s2 => ∃ nx : Nat, s2 = ⟨[.int .u64 hi, .int .u64 lo, .int .u64 Y, .junk, .junk, .junk, .int .u64 0, .int .u64 0, .int .u64 s, .int .u64 A1, .int .u64 A0, .int .u64 U, .int .u64 V, .int .u64 V1, .int .u64 V0, .int .u64 Q1, .junk, .int .u64 R1, .int .u64 Q2, .junk, .junk, .junk, .junk, .junk, .junk, .junk, .junk, .junk, .junk, .junk, .junk, .junk, .junk, .junk, .junk, .junk, .junk, .junk, .junk, .junk, .junk, .junk, .junk, .junk, .junk, .junk, .junk, .junk, .junk, .junk, .junk, .junk, .junk, .junk, .junk, .junk, .junk, .junk, .junk, .junk, .junk, .junk, .junk, .junk, .junk, .junk, .junk, .junk, .junk, .junk, .junk, .junk, .junk, .junk, .junk, .junk, .junk, .junk, .junk, .junk, .junk, .junk, .junk, .junk, .junk, .junk, .junk, .junk, .junk, .junk, .junk, .junk, .junk, .junk, .junk, .junk, .junk, .junk, .junk, .junk, .junk, .junk, .junk, .junk, .junk, .junk, .junk, .junk, .junk, .junk, .junk, .junk, .junk, .junk, .junk, .junk, .junk, .junk, .junk, .junk, .junk, .junk, .junk, .junk, .junk, .junk, .junk, .junk, .junk, .junk, .junk, .junk, .junk, .junk, .junk], [], nx⟩)
      _ _ ⟨q2, r2, _, rfl, d2.2.2.1, d2.1, d2.2.1, d2.2.2.2, rfl⟩ ⟨by simp [dropL], rfl, rfl⟩ ?_ ?_
    · rintro s2 ⟨nx, rfl⟩
      repeat' first
        | with_reducible refine W_seq ?_
        | with_reducible refine W_block ?_
        | with_reducible refine W_skip ?_
        | with_reducible refine N_code ?_
        | with_reducible refine N_blk ?_
        | with_reducible refine W_exit ?_
        | with_reducible refine E_blk ?_
        | with_reducible refine E_code ?_
        | with_reducible refine E_blk_ne (by decide) ?_
        | with_reducible refine W_ret ?_
        | with_reducible refine R_code ?_
        | with_reducible refine R_blk ?_
        | with_reducible refine R_nil ?_
        | with_reducible refine L_exit ?_
        | with_reducible refine L_ret ?_
        | with_reducible refine F_ret ?_
        | with_reducible refine F_out (by decide) ?_
        | ((with_reducible apply W_condE); (case hb => exact rfl); (case e1 => simp only [putT, List.set_cons_succ, List.set_cons_zero]; exact rfl); (case e2 => simp only [putT, List.set_cons_succ, List.set_cons_zero]; exact rfl); all_goals (intro hb; first | (exfalso; revert hb; simp; done) | (exfalso; simp at hb; omega) | simp only [beq_iff_eq, beq_eq_false_iff_ne, bne_iff_ne, bne_eq_false_iff_eq, ne_eq, decide_eq_true_eq, decide_eq_false_iff_not, Int.not_lt, Int.not_le] at hb | skip))
        | (with_reducible refine W_reg fun K hK => ?_)
        | (with_reducible refine W_drw mixed (by decide +kernel) fun K hK => ?_)
        | ((with_reducible refine AO_nil (hK _ ?_)); clear hK K)
        | ((with_reducible apply AO_stepE); (case hg => first | exact guardA_none rfl | exact guardA_yes rfl rfl rfl (by with_reducible rfl)); (case hs => simp (maxSteps := 2000000) only [go_sem, true_implies, false_implies, implies_true, reduceCtorEq, and_true, true_and, Nat.reduceAdd, Nat.reduceSub, Nat.reduceMul, Nat.reduceLT, Nat.reduceLeDiff, Nat.reduceEqDiff, Nat.reduceBEq, if_true, if_false, ite_true, ite_false, reduceIte, Bool.false_eq_true, Bool.true_eq_false, Bool.not_true, Bool.not_false, beq_self_eq_true, decide_true, decide_false, Int.reduceNeg, Int.reduceLT, Int.reduceLE, Int.reduceEq, Int.reduceToNat, Int.reducePow, Nat.reducePow, Nat.min_eq_left, Nat.min_eq_right, Int.reduceMul, Int.reduceAdd, Int.reduceSub, Int.reduceBEq, Int.reduceBNe, bne_self_eq_false, beq_true, beq_false, es1, es2, es3, f16, f17, f18]; exact rfl); (case ht => simp only [putT, List.set_cons_succ, List.set_cons_zero]; exact rfl); (case hn => first | (simp only [Nat.reduceAdd]; exact rfl) | exact rfl))
        | ((with_reducible apply AO_skipE); (case hg => first | exact guardA_gone rfl rfl rfl | exact guardA_noT rfl rfl rfl (by with_reducible rfl) | exact guardA_noF rfl rfl rfl (by with_reducible rfl)); (case ht => simp only [putT, List.set_cons_succ, List.set_cons_zero]; exact rfl); (case hn => first | (simp only [Nat.reduceAdd]; exact rfl) | exact rfl))
        | ((with_reducible apply D_end); (case hi => exact rfl); (case hind => first | exact indepB_old hnx (by omega) (by kernel_rfl) (by kernel_rfl) | kernel_rfl); (case hn => first | (simp only [Nat.reduceAdd]; exact rfl) | exact rfl); (with_reducible refine hK _ ?_); clear hK K)
        | ((with_reducible apply D_stepE); (case hg => first | exact guardA_none rfl | exact guardA_yes rfl rfl rfl (by with_reducible rfl)); (case hs => simp (maxSteps := 2000000) only [go_sem, true_implies, false_implies, implies_true, reduceCtorEq, and_true, true_and, Nat.reduceAdd, Nat.reduceSub, Nat.reduceMul, Nat.reduceLT, Nat.reduceLeDiff, Nat.reduceEqDiff, Nat.reduceBEq, if_true, if_false, ite_true, ite_false, reduceIte, Bool.false_eq_true, Bool.true_eq_false, Bool.not_true, Bool.not_false, beq_self_eq_true, decide_true, decide_false, Int.reduceNeg, Int.reduceLT, Int.reduceLE, Int.reduceEq, Int.reduceToNat, Int.reducePow, Nat.reducePow, Nat.min_eq_left, Nat.min_eq_right, Int.reduceMul, Int.reduceAdd, Int.reduceSub, Int.reduceBEq, Int.reduceBNe, bne_self_eq_false, beq_true, beq_false, es1, es2, es3, f16, f17, f18]; exact rfl); (case ht => simp only [putT, List.set_cons_succ, List.set_cons_zero]; exact rfl); (case hn => first | (simp only [Nat.reduceAdd]; exact rfl) | exact rfl); (case hc => exact rfl))
        | ((with_reducible apply D_skipE); (case hg => first | exact guardA_gone rfl rfl rfl | exact guardA_noT rfl rfl rfl (by with_reducible rfl) | exact guardA_noF rfl rfl rfl (by with_reducible rfl)); (case ht => simp only [putT, List.set_cons_succ, List.set_cons_zero]; exact rfl); (case hn => first | (simp only [Nat.reduceAdd]; exact rfl) | exact rfl); (case hc => exact rfl))
        | ((fail_if_success ((with_reducible apply AO_stepE); (case hg => first | exact guardA_none rfl | exact guardA_yes rfl rfl rfl (by with_reducible rfl)))); (fail_if_success ((with_reducible apply AO_skipE); (case hg => first | exact guardA_gone rfl rfl rfl | exact guardA_noT rfl rfl rfl (by with_reducible rfl) | exact guardA_noF rfl rfl rfl (by with_reducible rfl)))); (with_reducible apply AO_split); (case hg => exact rfl); (case hd => exact rfl); (case hb => exact rfl); (case e1 => simp only [putT, List.set_cons_succ, List.set_cons_zero]; exact rfl); (case e2 => simp only [putT, List.set_cons_succ, List.set_cons_zero]; exact rfl); all_goals intro hg)
        | ((fail_if_success ((with_reducible apply D_stepE); (case hg => first | exact guardA_none rfl | exact guardA_yes rfl rfl rfl (by with_reducible rfl)))); (fail_if_success ((with_reducible apply D_skipE); (case hg => first | exact guardA_gone rfl rfl rfl | exact guardA_noT rfl rfl rfl (by with_reducible rfl) | exact guardA_noF rfl rfl rfl (by with_reducible rfl)))); (with_reducible apply D_split); (case hg => exact rfl); (case hd => exact rfl); (case hb => exact rfl); (case e1 => simp only [putT, List.set_cons_succ, List.set_cons_zero]; exact rfl); (case e2 => simp only [putT, List.set_cons_succ, List.set_cons_zero]; exact rfl); all_goals intro hg)
      refine retQ_int2 rfl rfl ?_
      rw [hfin.1, hfin.2]
    · rintro m s2 ⟨qh, rh, nx, rfl, i1, i2, i3, i4, rfl⟩
      obtain ⟨Z, hZ⟩ : ∃ Z, Z = m * A0 := ⟨_, rfl⟩
      obtain ⟨m1, hm1⟩ : ∃ Z, Z = (m + 18446744073709551615) % 18446744073709551616 := ⟨_, rfl⟩
      obtain ⟨k1, k2, k3⟩ := dig_round hY0 hA0l hA1l hRY hV0l hQ2 hZ i1 hm1 i3 i2 i4
      have g1 : IntKind.u64.wrap (IntKind.u64.wrap (4294967296 * (rh : Int)) + V0) = ((4294967296 * rh + V0 : Nat) : Int) := by simp only [IntKind.wrap_u64]; omega
      have g2 : IntKind.u64.wrap ((m : Int) * A0) = ((Z % 18446744073709551616 : Nat) : Int) := by rw [mulN, wrapM, hZ]
      have g3 : IntKind.u64.wrap ((rh : Int) + A1) = ((rh + A1 : Nat) : Int) := by simp only [IntKind.wrap_u64]; omega
      have g4 : IntKind.u64.wrap ((m : Int) - 1) = (m1 : Int) := by simp only [IntKind.wrap_u64]; omega
      clear hm1 hZ
      repeat' first
        | with_reducible refine W_seq ?_
        | with_reducible refine W_block ?_
        | with_reducible refine W_skip ?_
        | with_reducible refine N_code ?_
        | with_reducible refine N_blk ?_
        | with_reducible refine W_exit ?_
        | with_reducible refine E_blk ?_
        | with_reducible refine E_code ?_
        | with_reducible refine E_blk_ne (by decide) ?_
        | with_reducible refine W_ret ?_
        | with_reducible refine R_code ?_
        | with_reducible refine R_blk ?_
        | with_reducible refine R_nil ?_
        | with_reducible refine L_exit ?_
        | with_reducible refine L_ret ?_
        | with_reducible refine F_ret ?_
        | with_reducible refine F_out (by decide) ?_
        | ((with_reducible apply W_condE); (case hb => exact rfl); (case e1 => simp only [putT, List.set_cons_succ, List.set_cons_zero]; exact rfl); (case e2 => simp only [putT, List.set_cons_succ, List.set_cons_zero]; exact rfl); all_goals (intro hb; first | (exfalso; revert hb; simp; done) | (exfalso; simp at hb; omega) | simp only [beq_iff_eq, beq_eq_false_iff_ne, bne_iff_ne, bne_eq_false_iff_eq, ne_eq, decide_eq_true_eq, decide_eq_false_iff_not, Int.not_lt, Int.not_le] at hb | skip))
        | (with_reducible refine W_reg fun K hK => ?_)
        | (with_reducible refine W_drw mixed (by decide +kernel) fun K hK => ?_)
        | ((with_reducible refine AO_nil (hK _ ?_)); clear hK K)
        | ((with_reducible apply AO_stepE); (case hg => first | exact guardA_none rfl | exact guardA_yes rfl rfl rfl (by with_reducible rfl)); (case hs => simp (maxSteps := 2000000) only [go_sem, true_implies, false_implies, implies_true, reduceCtorEq, and_true, true_and, Nat.reduceAdd, Nat.reduceSub, Nat.reduceMul, Nat.reduceLT, Nat.reduceLeDiff, Nat.reduceEqDiff, Nat.reduceBEq, if_true, if_false, ite_true, ite_false, reduceIte, Bool.false_eq_true, Bool.true_eq_false, Bool.not_true, Bool.not_false, beq_self_eq_true, decide_true, decide_false, Int.reduceNeg, Int.reduceLT, Int.reduceLE, Int.reduceEq, Int.reduceToNat, Int.reducePow, Nat.reducePow, Nat.min_eq_left, Nat.min_eq_right, Int.reduceMul, Int.reduceAdd, Int.reduceSub, Int.reduceBEq, Int.reduceBNe, bne_self_eq_false, beq_true, beq_false, g1, g2, g3, g4]; exact rfl); (case ht => simp only [putT, List.set_cons_succ, List.set_cons_zero]; exact rfl); (case hn => first | (simp only [Nat.reduceAdd]; exact rfl) | exact rfl))
        | ((with_reducible apply AO_skipE); (case hg => first | exact guardA_gone rfl rfl rfl | exact guardA_noT rfl rfl rfl (by with_reducible rfl) | exact guardA_noF rfl rfl rfl (by with_reducible rfl)); (case ht => simp only [putT, List.set_cons_succ, List.set_cons_zero]; exact rfl); (case hn => first | (simp only [Nat.reduceAdd]; exact rfl) | exact rfl))
        | ((with_reducible apply D_end); (case hi => exact rfl); (case hind => first | exact indepB_old hnx (by omega) (by kernel_rfl) (by kernel_rfl) | kernel_rfl); (case hn => first | (simp only [Nat.reduceAdd]; exact rfl) | exact rfl); (with_reducible refine hK _ ?_); clear hK K)
        | ((with_reducible apply D_stepE); (case hg => first | exact guardA_none rfl | exact guardA_yes rfl rfl rfl (by with_reducible rfl)); (case hs => simp (maxSteps := 2000000) only [go_sem, true_implies, false_implies, implies_true, reduceCtorEq, and_true, true_and, Nat.reduceAdd, Nat.reduceSub, Nat.reduceMul, Nat.reduceLT, Nat.reduceLeDiff, Nat.reduceEqDiff, Nat.reduceBEq, if_true, if_false, ite_true, ite_false, reduceIte, Bool.false_eq_true, Bool.true_eq_false, Bool.not_true, Bool.not_false, beq_self_eq_true, decide_true, decide_false, Int.reduceNeg, Int.reduceLT, Int.reduceLE, Int.reduceEq, Int.reduceToNat, Int.reducePow, Nat.reducePow, Nat.min_eq_left, Nat.min_eq_right, Int.reduceMul, Int.reduceAdd, Int.reduceSub, Int.reduceBEq, Int.reduceBNe, bne_self_eq_false, beq_true, beq_false, g1, g2, g3, g4]; exact rfl); (case ht => simp only [putT, List.set_cons_succ, List.set_cons_zero]; exact rfl); (case hn => first | (simp only [Nat.reduceAdd]; exact rfl) | exact rfl); (case hc => exact rfl))
        | ((with_reducible apply D_skipE); (case hg => first | exact guardA_gone rfl rfl rfl | exact guardA_noT rfl rfl rfl (by with_reducible rfl) | exact guardA_noF rfl rfl rfl (by with_reducible rfl)); (case ht => simp only [putT, List.set_cons_succ, List.set_cons_zero]; exact rfl); (case hn => first | (simp only [Nat.reduceAdd]; exact rfl) | exact rfl); (case hc => exact rfl))
        | ((fail_if_success ((with_reducible apply AO_stepE); (case hg => first | exact guardA_none rfl | exact guardA_yes rfl rfl rfl (by with_reducible rfl)))); (fail_if_success ((with_reducible apply AO_skipE); (case hg => first | exact guardA_gone rfl rfl rfl | exact guardA_noT rfl rfl rfl (by with_reducible rfl) | exact guardA_noF rfl rfl rfl (by with_reducible rfl)))); (with_reducible apply AO_split); (case hg => exact rfl); (case hd => exact rfl); (case hb => exact rfl); (case e1 => simp only [putT, List.set_cons_succ, List.set_cons_zero]; exact rfl); (case e2 => simp only [putT, List.set_cons_succ, List.set_cons_zero]; exact rfl); all_goals intro hg)
        | ((fail_if_success ((with_reducible apply D_stepE); (case hg => first | exact guardA_none rfl | exact guardA_yes rfl rfl rfl (by with_reducible rfl)))); (fail_if_success ((with_reducible apply D_skipE); (case hg => first | exact guardA_gone rfl rfl rfl | exact guardA_noT rfl rfl rfl (by with_reducible rfl) | exact guardA_noF rfl rfl rfl (by with_reducible rfl)))); (with_reducible apply D_split); (case hg => exact rfl); (case hd => exact rfl); (case hb => exact rfl); (case e1 => simp only [putT, List.set_cons_succ, List.set_cons_zero]; exact rfl); (case e2 => simp only [putT, List.set_cons_succ, List.set_cons_zero]; exact rfl); all_goals intro hg)
      all_goals simp only [decide_eq_true_eq, decide_eq_false_iff_not, Int.not_le, Int.not_lt] at *
      all_goals first
        | (obtain ⟨l1, l2, l3, l4⟩ := k1 (by omega)
           refine F_next ⟨m1, by omega, _, ⟨m1, rh + A1, _, rfl, l3, by omega, by omega, by omega, rfl⟩, ⟨by simp [dropL], rfl, rfl⟩⟩)
        | (obtain ⟨l1, l2, l3, l4⟩ := k1 (by omega)
           have e := l4 (by omega)
           rw [e]
           exact F_exit ⟨_, ⟨_, rfl⟩, ⟨by simp [dropL], rfl, rfl⟩⟩)
        | (have e := k2 (by omega)
           rw [e]
           exact F_exit ⟨_, ⟨_, rfl⟩, ⟨by simp [dropL], rfl, rfl⟩⟩)
  · rintro m s2 ⟨qh, rh, nx, rfl, i1, i2, i3, i4, rfl⟩
    obtain ⟨Z, hZ⟩ : ∃ Z, Z = m * A0 := ⟨_, rfl⟩
    obtain ⟨m1, hm1⟩ : ∃ Z, Z = (m + 18446744073709551615) % 18446744073709551616 := ⟨_, rfl⟩
    obtain ⟨k1, k2, k3⟩ := dig_round hY0 hA0l hA1l hUY hV1l hQ1 hZ i1 hm1 i3 i2 i4
    have g1 : IntKind.u64.wrap (IntKind.u64.wrap (4294967296 * (rh : Int)) + V1) = ((4294967296 * rh + V1 : Nat) : Int) := by simp only [IntKind.wrap_u64]; omega
    have g2 : IntKind.u64.wrap ((m : Int) * A0) = ((Z % 18446744073709551616 : Nat) : Int) := by rw [mulN, wrapM, hZ]
    have g3 : IntKind.u64.wrap ((rh : Int) + A1) = ((rh + A1 : Nat) : Int) := by simp only [IntKind.wrap_u64]; omega
    have g4 : IntKind.u64.wrap ((m : Int) - 1) = (m1 : Int) := by simp only [IntKind.wrap_u64]; omega
    clear hm1 hZ
    repeat' first
      | with_reducible refine W_seq ?_
      | with_reducible refine W_block ?_
      | with_reducible refine W_skip ?_
      | with_reducible refine N_code ?_
      | with_reducible refine N_blk ?_
      | with_reducible refine W_exit ?_
      | with_reducible refine E_blk ?_
      | with_reducible refine E_code ?_
      | with_reducible refine E_blk_ne (by decide) ?_
      | with_reducible refine W_ret ?_
      | with_reducible refine R_code ?_
      | with_reducible refine R_blk ?_
      | with_reducible refine R_nil ?_
      | with_reducible refine L_exit ?_
      | with_reducible refine L_ret ?_
      | with_reducible refine F_ret ?_
      | with_reducible refine F_out (by decide) ?_
      | ((with_reducible apply W_condE); (case hb => exact rfl); (case e1 => simp only [putT, List.set_cons_succ, List.set_cons_zero]; exact rfl); (case e2 => simp only [putT, List.set_cons_succ, List.set_cons_zero]; exact rfl); all_goals (intro hb; first | (exfalso; revert hb; simp; done) | (exfalso; simp at hb; omega) | simp only [beq_iff_eq, beq_eq_false_iff_ne, bne_iff_ne, bne_eq_false_iff_eq, ne_eq, decide_eq_true_eq, decide_eq_false_iff_not, Int.not_lt, Int.not_le] at hb | skip))
      | (with_reducible refine W_reg fun K hK => ?_)
      | (with_reducible refine W_drw mixed (by decide +kernel) fun K hK => ?_)
      | ((with_reducible refine AO_nil (hK _ ?_)); clear hK K)
      | ((with_reducible apply AO_stepE); (case hg => first | exact guardA_none rfl | exact guardA_yes rfl rfl rfl (by with_reducible rfl)); (case hs => simp (maxSteps := 2000000) only [go_sem, true_implies, false_implies, implies_true, reduceCtorEq, and_true, true_and, Nat.reduceAdd, Nat.reduceSub, Nat.reduceMul, Nat.reduceLT, Nat.reduceLeDiff, Nat.reduceEqDiff, Nat.reduceBEq, if_true, if_false, ite_true, ite_false, reduceIte, Bool.false_eq_true, Bool.true_eq_false, Bool.not_true, Bool.not_false, beq_self_eq_true, decide_true, decide_false, Int.reduceNeg, Int.reduceLT, Int.reduceLE, Int.reduceEq, Int.reduceToNat, Int.reducePow, Nat.reducePow, Nat.min_eq_left, Nat.min_eq_right, Int.reduceMul, Int.reduceAdd, Int.reduceSub, Int.reduceBEq, Int.reduceBNe, bne_self_eq_false, beq_true, beq_false, g1, g2, g3, g4]; exact rfl); (case ht => simp only [putT, List.set_cons_succ, List.set_cons_zero]; exact rfl); (case hn => first | (simp only [Nat.reduceAdd]; exact rfl) | exact rfl))
      | ((with_reducible apply AO_skipE); (case hg => first | exact guardA_gone rfl rfl rfl | exact guardA_noT rfl rfl rfl (by with_reducible rfl) | exact guardA_noF rfl rfl rfl (by with_reducible rfl)); (case ht => simp only [putT, List.set_cons_succ, List.set_cons_zero]; exact rfl); (case hn => first | (simp only [Nat.reduceAdd]; exact rfl) | exact rfl))
      | ((with_reducible apply D_end); (case hi => exact rfl); (case hind => first | exact indepB_old hnx (by omega) (by kernel_rfl) (by kernel_rfl) | kernel_rfl); (case hn => first | (simp only [Nat.reduceAdd]; exact rfl) | exact rfl); (with_reducible refine hK _ ?_); clear hK K)
      | ((with_reducible apply D_stepE); (case hg => first | exact guardA_none rfl | exact guardA_yes rfl rfl rfl (by with_reducible rfl)); (case hs => simp (maxSteps := 2000000) only [go_sem, true_implies, false_implies, implies_true, reduceCtorEq, and_true, true_and, Nat.reduceAdd, Nat.reduceSub, Nat.reduceMul, Nat.reduceLT, Nat.reduceLeDiff, Nat.reduceEqDiff, Nat.reduceBEq, if_true, if_false, ite_true, ite_false, reduceIte, Bool.false_eq_true, Bool.true_eq_false, Bool.not_true, Bool.not_false, beq_self_eq_true, decide_true, decide_false, Int.reduceNeg, Int.reduceLT, Int.reduceLE, Int.reduceEq, Int.reduceToNat, Int.reducePow, Nat.reducePow, Nat.min_eq_left, Nat.min_eq_right, Int.reduceMul, Int.reduceAdd, Int.reduceSub, Int.reduceBEq, Int.reduceBNe, bne_self_eq_false, beq_true, beq_false, g1, g2, g3, g4]; exact rfl); (case ht => simp only [putT, List.set_cons_succ, List.set_cons_zero]; exact rfl); (case hn => first | (simp only [Nat.reduceAdd]; exact rfl) | exact rfl); (case hc => exact rfl))
      | ((with_reducible apply D_skipE); (case hg => first | exact guardA_gone rfl rfl rfl | exact guardA_noT rfl rfl rfl (by with_reducible rfl) | exact guardA_noF rfl rfl rfl (by with_reducible rfl)); (case ht => simp only [putT, List.set_cons_succ, List.set_cons_zero]; exact rfl); (case hn => first | (simp only [Nat.reduceAdd]; exact rfl) | exact rfl); (case hc => exact rfl))
      | ((fail_if_success ((with_reducible apply AO_stepE); (case hg => first | exact guardA_none rfl | exact guardA_yes rfl rfl rfl (by with_reducible rfl)))); (fail_if_success ((with_reducible apply AO_skipE); (case hg => first | exact guardA_gone rfl rfl rfl | exact guardA_noT rfl rfl rfl (by with_reducible rfl) | exact guardA_noF rfl rfl rfl (by with_reducible rfl)))); (with_reducible apply AO_split); (case hg => exact rfl); (case hd => exact rfl); (case hb => exact rfl); (case e1 => simp only [putT, List.set_cons_succ, List.set_cons_zero]; exact rfl); (case e2 => simp only [putT, List.set_cons_succ, List.set_cons_zero]; exact rfl); all_goals intro hg)
      | ((fail_if_success ((with_reducible apply D_stepE); (case hg => first | exact guardA_none rfl | exact guardA_yes rfl rfl rfl (by with_reducible rfl)))); (fail_if_success ((with_reducible apply D_skipE); (case hg => first | exact guardA_gone rfl rfl rfl | exact guardA_noT rfl rfl rfl (by with_reducible rfl) | exact guardA_noF rfl rfl rfl (by with_reducible rfl)))); (with_reducible apply D_split); (case hg => exact rfl); (case hd => exact rfl); (case hb => exact rfl); (case e1 => simp only [putT, List.set_cons_succ, List.set_cons_zero]; exact rfl); (case e2 => simp only [putT, List.set_cons_succ, List.set_cons_zero]; exact rfl); all_goals intro hg)
    all_goals simp only [decide_eq_true_eq, decide_eq_false_iff_not, Int.not_le, Int.not_lt] at *
    all_goals first
      | (obtain ⟨l1, l2, l3, l4⟩ := k1 (by omega)
         refine F_next ⟨m1, by omega, _, ⟨m1, rh + A1, _, rfl, l3, by omega, by omega, by omega, rfl⟩, ⟨by simp [dropL], rfl, rfl⟩⟩)
      | (obtain ⟨l1, l2, l3, l4⟩ := k1 (by omega)
         have e := l4 (by omega)
         rw [e]
         exact F_exit ⟨_, ⟨_, rfl⟩, ⟨by simp [dropL], rfl, rfl⟩⟩)
      | (have e := k2 (by omega)
         rw [e]
         exact F_exit ⟨_, ⟨_, rfl⟩, ⟨by simp [dropL], rfl, rfl⟩⟩)

theorem div64_ok (hi lo y : Nat) (hy : hi < y) (hy2 : y < 18446744073709551616) (hlo : lo < 18446744073709551616) :
    PCall Try.prog 28 [.int .u64 hi, .int .u64 lo, .int .u64 y] (· = .tuple [.int .u64 ((((hi * 18446744073709551616 + lo) / y : Nat)) : Int), .int .u64 (((hi * 18446744073709551616 + lo) % y : Nat) : Int)]) := by
  rcases Nat.eq_zero_or_pos hi with rfl | hh
  · have h := div64_0 (lo : Int) y (by omega) (by omega)
    rw [Nat.zero_mul, Nat.zero_add]
    exact h
  · obtain ⟨s, h1, h2, h3, h4⟩ := bitLen_norm y (by omega) hy2
    exact div64_full hi lo y s hy hy2 hlo hh h1 h2 h3 h4

end Go.Proofs.Ytjidlifijngcpaa
