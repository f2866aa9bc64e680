/-
  Products that are divided, walked; and the laws FixProducts, FixOrder, FixBack as contracts.
-/
import Derived.Test.YtjidlifijngcpaaF6
import Derived.Test.YtjidlifijngcpaaAM29
namespace Go.Proofs.Ytjidlifijngcpaa
open Go Go.AM
set_option maxHeartbeats 1000000
set_option linter.unusedSimpArgs false
set_option linter.unusedVariables false
attribute [local go_sem] ty3 ty4 ty22 ty39 ty43 eg39 si39 ty28 eg28

theorem rmul_ok (a b : Int) (ha : 0 ≤ a) (hb0 : 0 ≤ b) : PCall Try.prog 17 [.int .u64 a, .int .u64 b] (· = .int .u64 (min (min a 4611686018427387904 * min b 4611686018427387904) 4611686018427387904)) := by
  have hm := mul_lt (x := min a 4611686018427387904) (y := min b 4611686018427387904) (by omega) (by omega)
  have i4 := times_ok (min a 4611686018427387904) (min b 4611686018427387904) (by omega) (by omega)
  generalize min a 4611686018427387904 * min b 4611686018427387904 = p at *
  refine PCall_intro (c := Try.f17.body.getD .skip) Try.func17 rfl (by decide +kernel) (by simp [Fz.int_iff, Fz.bool_iff, Fz.agg_iff, Fz.str_iff]) (W_start ?_)
  simp only [Try.f17, go_sem, Nat.reduceAdd, Nat.reduceSub]
  repeat' first
    | with_reducible refine W_seq ?_
    | with_reducible refine W_block ?_
    | with_reducible refine W_skip ?_
    | with_reducible refine N_code ?_
    | with_reducible refine N_blk ?_
    | with_reducible refine W_exit ?_
    | with_reducible refine E_blk ?_
    | with_reducible refine E_code ?_
    | with_reducible refine E_blk_ne (by decide) ?_
    | with_reducible refine W_ret ?_
    | with_reducible refine R_code ?_
    | with_reducible refine R_blk ?_
    | with_reducible refine R_nil ?_
    | with_reducible refine L_exit ?_
    | with_reducible refine L_ret ?_
    | with_reducible refine F_ret ?_
    | with_reducible refine F_out (by decide) ?_
    | ((with_reducible apply W_condE); (case hb => exact rfl); (case e1 => simp only [putT, List.set_cons_succ, List.set_cons_zero]; exact rfl); (case e2 => simp only [putT, List.set_cons_succ, List.set_cons_zero]; exact rfl); all_goals (intro hb; first | (exfalso; revert hb; simp; done) | (exfalso; simp at hb; omega) | simp only [beq_iff_eq, beq_eq_false_iff_ne, bne_iff_ne, bne_eq_false_iff_eq, ne_eq, decide_eq_true_eq, decide_eq_false_iff_not, Int.not_lt, Int.not_le] at hb | skip))
    | (with_reducible refine W_reg fun K hK => ?_)
    | (with_reducible refine W_drw mixed (by decide +kernel) fun K hK => ?_)
    | ((with_reducible refine AO_nil (hK _ ?_)); clear hK K)
    | ((with_reducible apply AO_stepE); (case hg => first | exact guardA_none rfl | exact guardA_yes rfl rfl rfl (by with_reducible rfl)); (case hs => simp (maxSteps := 2000000) only [go_sem, true_implies, false_implies, implies_true, reduceCtorEq, and_true, true_and, Nat.reduceAdd, Nat.reduceSub, Nat.reduceMul, Nat.reduceLT, Nat.reduceLeDiff, Nat.reduceEqDiff, Nat.reduceBEq, if_true, if_false, ite_true, ite_false, reduceIte, Bool.false_eq_true, Bool.true_eq_false, Bool.not_true, Bool.not_false, beq_self_eq_true, decide_true, decide_false, Int.reduceNeg, Int.reduceLT, Int.reduceLE, Int.reduceEq, Int.reduceToNat, Int.reducePow, Nat.reducePow, Nat.min_eq_left, Nat.min_eq_right, Int.reduceMul, Int.reduceAdd, Int.reduceSub, Int.reduceBEq, Int.reduceBNe, bne_self_eq_false, beq_true, beq_false]; exact rfl); (case ht => simp only [putT, List.set_cons_succ, List.set_cons_zero]; exact rfl); (case hn => first | (simp only [Nat.reduceAdd]; exact rfl) | exact rfl))
    | ((with_reducible apply AO_skipE); (case hg => first | exact guardA_gone rfl rfl rfl | exact guardA_noT rfl rfl rfl (by with_reducible rfl) | exact guardA_noF rfl rfl rfl (by with_reducible rfl)); (case ht => simp only [putT, List.set_cons_succ, List.set_cons_zero]; exact rfl); (case hn => first | (simp only [Nat.reduceAdd]; exact rfl) | exact rfl))
    | ((with_reducible apply D_end); (case hi => exact rfl); (case hind => first | exact indepB_old hnx (by omega) (by kernel_rfl) (by kernel_rfl) | kernel_rfl); (case hn => first | (simp only [Nat.reduceAdd]; exact rfl) | exact rfl); (with_reducible refine hK _ ?_); clear hK K)
    | ((with_reducible apply D_stepE); (case hg => first | exact guardA_none rfl | exact guardA_yes rfl rfl rfl (by with_reducible rfl)); (case hs => simp (maxSteps := 2000000) only [go_sem, true_implies, false_implies, implies_true, reduceCtorEq, and_true, true_and, Nat.reduceAdd, Nat.reduceSub, Nat.reduceMul, Nat.reduceLT, Nat.reduceLeDiff, Nat.reduceEqDiff, Nat.reduceBEq, if_true, if_false, ite_true, ite_false, reduceIte, Bool.false_eq_true, Bool.true_eq_false, Bool.not_true, Bool.not_false, beq_self_eq_true, decide_true, decide_false, Int.reduceNeg, Int.reduceLT, Int.reduceLE, Int.reduceEq, Int.reduceToNat, Int.reducePow, Nat.reducePow, Nat.min_eq_left, Nat.min_eq_right, Int.reduceMul, Int.reduceAdd, Int.reduceSub, Int.reduceBEq, Int.reduceBNe, bne_self_eq_false, beq_true, beq_false]; exact rfl); (case ht => simp only [putT, List.set_cons_succ, List.set_cons_zero]; exact rfl); (case hn => first | (simp only [Nat.reduceAdd]; exact rfl) | exact rfl); (case hc => exact rfl))
    | ((with_reducible apply D_skipE); (case hg => first | exact guardA_gone rfl rfl rfl | exact guardA_noT rfl rfl rfl (by with_reducible rfl) | exact guardA_noF rfl rfl rfl (by with_reducible rfl)); (case ht => simp only [putT, List.set_cons_succ, List.set_cons_zero]; exact rfl); (case hn => first | (simp only [Nat.reduceAdd]; exact rfl) | exact rfl); (case hc => exact rfl))
    | ((with_reducible apply AO_callE); (case hg => first | exact guardA_none rfl | exact guardA_yes rfl rfl rfl (by with_reducible rfl)); (case ho => exact rfl); (case ht => exact rfl); (case hp' => first | exact rin_ok _ | exact i4 | exact capped_ok _ (by omega)); (case htm => simp only [putT, List.set_cons_succ, List.set_cons_zero]; exact rfl); (case hn => first | (simp only [Nat.reduceAdd]; exact rfl) | exact rfl))
    | ((with_reducible apply D_callE); (case hg => first | exact guardA_none rfl | exact guardA_yes rfl rfl rfl (by with_reducible rfl)); (case ho => exact rfl); (case ht => exact rfl); (case hp' => first | exact rin_ok _ | exact i4 | exact capped_ok _ (by omega)); (case htm => simp only [putT, List.set_cons_succ, List.set_cons_zero]; exact rfl); (case hn => first | (simp only [Nat.reduceAdd]; exact rfl) | exact rfl); (case hc => exact rfl))
    | ((fail_if_success ((with_reducible apply AO_stepE); (case hg => first | exact guardA_none rfl | exact guardA_yes rfl rfl rfl (by with_reducible rfl)))); (fail_if_success ((with_reducible apply AO_skipE); (case hg => first | exact guardA_gone rfl rfl rfl | exact guardA_noT rfl rfl rfl (by with_reducible rfl) | exact guardA_noF rfl rfl rfl (by with_reducible rfl)))); (with_reducible apply AO_split); (case hg => exact rfl); (case hd => exact rfl); (case hb => exact rfl); (case e1 => simp only [putT, List.set_cons_succ, List.set_cons_zero]; exact rfl); (case e2 => simp only [putT, List.set_cons_succ, List.set_cons_zero]; exact rfl); all_goals intro hg)
    | ((fail_if_success ((with_reducible apply D_stepE); (case hg => first | exact guardA_none rfl | exact guardA_yes rfl rfl rfl (by with_reducible rfl)))); (fail_if_success ((with_reducible apply D_skipE); (case hg => first | exact guardA_gone rfl rfl rfl | exact guardA_noT rfl rfl rfl (by with_reducible rfl) | exact guardA_noF rfl rfl rfl (by with_reducible rfl)))); (with_reducible apply D_split); (case hg => exact rfl); (case hd => exact rfl); (case hb => exact rfl); (case e1 => simp only [putT, List.set_cons_succ, List.set_cons_zero]; exact rfl); (case e2 => simp only [putT, List.set_cons_succ, List.set_cons_zero]; exact rfl); all_goals intro hg)
  exact retQ_int rfl rfl

theorem div64I (p c : Int) (hp : 0 ≤ p) (hc : p / 18446744073709551616 < c) (hc2 : c < 18446744073709551616) :
    PCall Try.prog 28 [.int .u64 (p / 18446744073709551616), .int .u64 (p % 18446744073709551616), .int .u64 c] (· = .tuple [.int .u64 (p / c), .int .u64 (p % c)]) := by
  obtain ⟨P, rfl⟩ : ∃ P : Nat, p = P := ⟨p.toNat, by omega⟩
  obtain ⟨D, rfl⟩ : ∃ P : Nat, c = P := ⟨c.toNat, by omega⟩
  have h := div64_ok (P / 18446744073709551616) (P % 18446744073709551616) D (by omega) (by omega) (by omega)
  rw [show P / 18446744073709551616 * 18446744073709551616 + P % 18446744073709551616 = P by omega] at h
  exact h

/-- A product, divided. -/
def mdv (a b c : Int) : Int := if min c 4611686018427387904 = 0 then 4611686018427387904 else min (min a 4611686018427387904 * min b 4611686018427387904 / min c 4611686018427387904) 4611686018427387904

theorem muldiv_ok (a b c : Int) (ha : 0 ≤ a) (hb0 : 0 ≤ b) (hc0 : 0 ≤ c) : PCall Try.prog 18 [.int .u64 a, .int .u64 b, .int .u64 c] (· = .int .u64 (mdv a b c)) := by
  have hm := mul_lt (x := min a 4611686018427387904) (y := min b 4611686018427387904) (by omega) (by omega)
  have i4 := mul64_ok (min a 4611686018427387904) (min b 4611686018427387904) (by omega) (by omega)
  have hdef : mdv a b c = if min c 4611686018427387904 = 0 then 4611686018427387904 else min (min a 4611686018427387904 * min b 4611686018427387904 / min c 4611686018427387904) 4611686018427387904 := rfl
  generalize mdv a b c = r at *
  have hcd : 0 ≤ min c 4611686018427387904 ∧ min c 4611686018427387904 ≤ 4611686018427387904 := by omega
  have i5 := in_ok c
  generalize min c 4611686018427387904 = d at *
  generalize min a 4611686018427387904 * min b 4611686018427387904 = p at *
  refine PCall_intro (c := Try.f18.body.getD .skip) Try.func18 rfl (by decide +kernel) (by simp [Fz.int_iff, Fz.bool_iff, Fz.agg_iff, Fz.str_iff]) (W_start ?_)
  simp only [Try.f18, go_sem, Nat.reduceAdd, Nat.reduceSub]
  repeat' first
    | with_reducible refine W_seq ?_
    | with_reducible refine W_block ?_
    | with_reducible refine W_skip ?_
    | with_reducible refine N_code ?_
    | with_reducible refine N_blk ?_
    | with_reducible refine W_exit ?_
    | with_reducible refine E_blk ?_
    | with_reducible refine E_code ?_
    | with_reducible refine E_blk_ne (by decide) ?_
    | with_reducible refine W_ret ?_
    | with_reducible refine R_code ?_
    | with_reducible refine R_blk ?_
    | with_reducible refine R_nil ?_
    | with_reducible refine L_exit ?_
    | with_reducible refine L_ret ?_
    | with_reducible refine F_ret ?_
    | with_reducible refine F_out (by decide) ?_
    | ((with_reducible apply W_condE); (case hb => exact rfl); (case e1 => simp only [putT, List.set_cons_succ, List.set_cons_zero]; exact rfl); (case e2 => simp only [putT, List.set_cons_succ, List.set_cons_zero]; exact rfl); all_goals (intro hb; first | (exfalso; revert hb; simp; done) | (exfalso; simp at hb; omega) | simp only [beq_iff_eq, beq_eq_false_iff_ne, bne_iff_ne, bne_eq_false_iff_eq, ne_eq, decide_eq_true_eq, decide_eq_false_iff_not, Int.not_lt, Int.not_le] at hb | skip))
    | (with_reducible refine W_reg fun K hK => ?_)
    | (with_reducible refine W_drw mixed (by decide +kernel) fun K hK => ?_)
    | ((with_reducible refine AO_nil (hK _ ?_)); clear hK K)
    | ((with_reducible apply AO_stepE); (case hg => first | exact guardA_none rfl | exact guardA_yes rfl rfl rfl (by with_reducible rfl)); (case hs => simp (maxSteps := 2000000) only [go_sem, true_implies, false_implies, implies_true, reduceCtorEq, and_true, true_and, Nat.reduceAdd, Nat.reduceSub, Nat.reduceMul, Nat.reduceLT, Nat.reduceLeDiff, Nat.reduceEqDiff, Nat.reduceBEq, if_true, if_false, ite_true, ite_false, reduceIte, Bool.false_eq_true, Bool.true_eq_false, Bool.not_true, Bool.not_false, beq_self_eq_true, decide_true, decide_false, Int.reduceNeg, Int.reduceLT, Int.reduceLE, Int.reduceEq, Int.reduceToNat, Int.reducePow, Nat.reducePow, Nat.min_eq_left, Nat.min_eq_right, Int.reduceMul, Int.reduceAdd, Int.reduceSub, Int.reduceBEq, Int.reduceBNe, bne_self_eq_false, beq_true, beq_false]; exact rfl); (case ht => simp only [putT, List.set_cons_succ, List.set_cons_zero]; exact rfl); (case hn => first | (simp only [Nat.reduceAdd]; exact rfl) | exact rfl))
    | ((with_reducible apply AO_skipE); (case hg => first | exact guardA_gone rfl rfl rfl | exact guardA_noT rfl rfl rfl (by with_reducible rfl) | exact guardA_noF rfl rfl rfl (by with_reducible rfl)); (case ht => simp only [putT, List.set_cons_succ, List.set_cons_zero]; exact rfl); (case hn => first | (simp only [Nat.reduceAdd]; exact rfl) | exact rfl))
    | ((with_reducible apply D_end); (case hi => exact rfl); (case hind => first | exact indepB_old hnx (by omega) (by kernel_rfl) (by kernel_rfl) | kernel_rfl); (case hn => first | (simp only [Nat.reduceAdd]; exact rfl) | exact rfl); (with_reducible refine hK _ ?_); clear hK K)
    | ((with_reducible apply D_stepE); (case hg => first | exact guardA_none rfl | exact guardA_yes rfl rfl rfl (by with_reducible rfl)); (case hs => simp (maxSteps := 2000000) only [go_sem, true_implies, false_implies, implies_true, reduceCtorEq, and_true, true_and, Nat.reduceAdd, Nat.reduceSub, Nat.reduceMul, Nat.reduceLT, Nat.reduceLeDiff, Nat.reduceEqDiff, Nat.reduceBEq, if_true, if_false, ite_true, ite_false, reduceIte, Bool.false_eq_true, Bool.true_eq_false, Bool.not_true, Bool.not_false, beq_self_eq_true, decide_true, decide_false, Int.reduceNeg, Int.reduceLT, Int.reduceLE, Int.reduceEq, Int.reduceToNat, Int.reducePow, Nat.reducePow, Nat.min_eq_left, Nat.min_eq_right, Int.reduceMul, Int.reduceAdd, Int.reduceSub, Int.reduceBEq, Int.reduceBNe, bne_self_eq_false, beq_true, beq_false]; exact rfl); (case ht => simp only [putT, List.set_cons_succ, List.set_cons_zero]; exact rfl); (case hn => first | (simp only [Nat.reduceAdd]; exact rfl) | exact rfl); (case hc => exact rfl))
    | ((with_reducible apply D_skipE); (case hg => first | exact guardA_gone rfl rfl rfl | exact guardA_noT rfl rfl rfl (by with_reducible rfl) | exact guardA_noF rfl rfl rfl (by with_reducible rfl)); (case ht => simp only [putT, List.set_cons_succ, List.set_cons_zero]; exact rfl); (case hn => first | (simp only [Nat.reduceAdd]; exact rfl) | exact rfl); (case hc => exact rfl))
    | ((with_reducible apply AO_callE); (case hg => first | exact guardA_none rfl | exact guardA_yes rfl rfl rfl (by with_reducible rfl)); (case ho => exact rfl); (case ht => exact rfl); (case hp' => first | exact i5 | exact in_ok _ | exact i4 | exact div64I _ _ (by omega) (by omega) (by omega)); (case htm => simp only [putT, List.set_cons_succ, List.set_cons_zero]; exact rfl); (case hn => first | (simp only [Nat.reduceAdd]; exact rfl) | exact rfl))
    | ((with_reducible apply D_callE); (case hg => first | exact guardA_none rfl | exact guardA_yes rfl rfl rfl (by with_reducible rfl)); (case ho => exact rfl); (case ht => exact rfl); (case hp' => first | exact i5 | exact in_ok _ | exact i4 | exact div64I _ _ (by omega) (by omega) (by omega)); (case htm => simp only [putT, List.set_cons_succ, List.set_cons_zero]; exact rfl); (case hn => first | (simp only [Nat.reduceAdd]; exact rfl) | exact rfl); (case hc => exact rfl))
    | ((fail_if_success ((with_reducible apply AO_stepE); (case hg => first | exact guardA_none rfl | exact guardA_yes rfl rfl rfl (by with_reducible rfl)))); (fail_if_success ((with_reducible apply AO_skipE); (case hg => first | exact guardA_gone rfl rfl rfl | exact guardA_noT rfl rfl rfl (by with_reducible rfl) | exact guardA_noF rfl rfl rfl (by with_reducible rfl)))); (with_reducible apply AO_split); (case hg => exact rfl); (case hd => exact rfl); (case hb => exact rfl); (case e1 => simp only [putT, List.set_cons_succ, List.set_cons_zero]; exact rfl); (case e2 => simp only [putT, List.set_cons_succ, List.set_cons_zero]; exact rfl); all_goals intro hg)
    | ((fail_if_success ((with_reducible apply D_stepE); (case hg => first | exact guardA_none rfl | exact guardA_yes rfl rfl rfl (by with_reducible rfl)))); (fail_if_success ((with_reducible apply D_skipE); (case hg => first | exact guardA_gone rfl rfl rfl | exact guardA_noT rfl rfl rfl (by with_reducible rfl) | exact guardA_noF rfl rfl rfl (by with_reducible rfl)))); (with_reducible apply D_split); (case hg => exact rfl); (case hd => exact rfl); (case hb => exact rfl); (case e1 => simp only [putT, List.set_cons_succ, List.set_cons_zero]; exact rfl); (case e2 => simp only [putT, List.set_cons_succ, List.set_cons_zero]; exact rfl); all_goals intro hg)
  all_goals refine retQ_int rfl ?_
  · congr 1
    rw [hdef]
    split
    · rfl
    · have h1 : 18446744073709551616 ≤ p / d := by
        rw [Int.le_ediv_iff_mul_le (by omega)]
        omega
      omega
  · congr 1
    rw [hdef]
    split
    · omega
    · rfl

theorem rmuldiv_ok (a b c : Int) (ha : 0 ≤ a) (hb0 : 0 ≤ b) (hc0 : 0 ≤ c) : PCall Try.prog 19 [.int .u64 a, .int .u64 b, .int .u64 c] (· = .int .u64 (mdv a b c)) := by
  have hm := mul_lt (x := min a 4611686018427387904) (y := min b 4611686018427387904) (by omega) (by omega)
  have i4 := times_ok (min a 4611686018427387904) (min b 4611686018427387904) (by omega) (by omega)
  have hdef : mdv a b c = if min c 4611686018427387904 = 0 then 4611686018427387904 else min (min a 4611686018427387904 * min b 4611686018427387904 / min c 4611686018427387904) 4611686018427387904 := rfl
  generalize mdv a b c = r at *
  have hcd : 0 ≤ min c 4611686018427387904 ∧ min c 4611686018427387904 ≤ 4611686018427387904 := by omega
  have i5 := rin_ok c
  generalize min c 4611686018427387904 = d at *
  generalize min a 4611686018427387904 * min b 4611686018427387904 = p at *
  refine PCall_intro (c := Try.f19.body.getD .skip) Try.func19 rfl (by decide +kernel) (by simp [Fz.int_iff, Fz.bool_iff, Fz.agg_iff, Fz.str_iff]) (W_start ?_)
  simp only [Try.f19, go_sem, Nat.reduceAdd, Nat.reduceSub]
  repeat' first
    | with_reducible refine W_seq ?_
    | with_reducible refine W_block ?_
    | with_reducible refine W_skip ?_
    | with_reducible refine N_code ?_
    | with_reducible refine N_blk ?_
    | with_reducible refine W_exit ?_
    | with_reducible refine E_blk ?_
    | with_reducible refine E_code ?_
    | with_reducible refine E_blk_ne (by decide) ?_
    | with_reducible refine W_ret ?_
    | with_reducible refine R_code ?_
    | with_reducible refine R_blk ?_
    | with_reducible refine R_nil ?_
    | with_reducible refine L_exit ?_
    | with_reducible refine L_ret ?_
    | with_reducible refine F_ret ?_
    | with_reducible refine F_out (by decide) ?_
    | ((with_reducible apply W_condE); (case hb => exact rfl); (case e1 => simp only [putT, List.set_cons_succ, List.set_cons_zero]; exact rfl); (case e2 => simp only [putT, List.set_cons_succ, List.set_cons_zero]; exact rfl); all_goals (intro hb; first | (exfalso; revert hb; simp; done) | (exfalso; simp at hb; omega) | simp only [beq_iff_eq, beq_eq_false_iff_ne, bne_iff_ne, bne_eq_false_iff_eq, ne_eq, decide_eq_true_eq, decide_eq_false_iff_not, Int.not_lt, Int.not_le] at hb | skip))
    | (with_reducible refine W_reg fun K hK => ?_)
    | (with_reducible refine W_drw mixed (by decide +kernel) fun K hK => ?_)
    | ((with_reducible refine AO_nil (hK _ ?_)); clear hK K)
    | ((with_reducible apply AO_stepE); (case hg => first | exact guardA_none rfl | exact guardA_yes rfl rfl rfl (by with_reducible rfl)); (case hs => simp (maxSteps := 2000000) only [go_sem, true_implies, false_implies, implies_true, reduceCtorEq, and_true, true_and, Nat.reduceAdd, Nat.reduceSub, Nat.reduceMul, Nat.reduceLT, Nat.reduceLeDiff, Nat.reduceEqDiff, Nat.reduceBEq, if_true, if_false, ite_true, ite_false, reduceIte, Bool.false_eq_true, Bool.true_eq_false, Bool.not_true, Bool.not_false, beq_self_eq_true, decide_true, decide_false, Int.reduceNeg, Int.reduceLT, Int.reduceLE, Int.reduceEq, Int.reduceToNat, Int.reducePow, Nat.reducePow, Nat.min_eq_left, Nat.min_eq_right, Int.reduceMul, Int.reduceAdd, Int.reduceSub, Int.reduceBEq, Int.reduceBNe, bne_self_eq_false, beq_true, beq_false]; exact rfl); (case ht => simp only [putT, List.set_cons_succ, List.set_cons_zero]; exact rfl); (case hn => first | (simp only [Nat.reduceAdd]; exact rfl) | exact rfl))
    | ((with_reducible apply AO_skipE); (case hg => first | exact guardA_gone rfl rfl rfl | exact guardA_noT rfl rfl rfl (by with_reducible rfl) | exact guardA_noF rfl rfl rfl (by with_reducible rfl)); (case ht => simp only [putT, List.set_cons_succ, List.set_cons_zero]; exact rfl); (case hn => first | (simp only [Nat.reduceAdd]; exact rfl) | exact rfl))
    | ((with_reducible apply D_end); (case hi => exact rfl); (case hind => first | exact indepB_old hnx (by omega) (by kernel_rfl) (by kernel_rfl) | kernel_rfl); (case hn => first | (simp only [Nat.reduceAdd]; exact rfl) | exact rfl); (with_reducible refine hK _ ?_); clear hK K)
    | ((with_reducible apply D_stepE); (case hg => first | exact guardA_none rfl | exact guardA_yes rfl rfl rfl (by with_reducible rfl)); (case hs => simp (maxSteps := 2000000) only [go_sem, true_implies, false_implies, implies_true, reduceCtorEq, and_true, true_and, Nat.reduceAdd, Nat.reduceSub, Nat.reduceMul, Nat.reduceLT, Nat.reduceLeDiff, Nat.reduceEqDiff, Nat.reduceBEq, if_true, if_false, ite_true, ite_false, reduceIte, Bool.false_eq_true, Bool.true_eq_false, Bool.not_true, Bool.not_false, beq_self_eq_true, decide_true, decide_false, Int.reduceNeg, Int.reduceLT, Int.reduceLE, Int.reduceEq, Int.reduceToNat, Int.reducePow, Nat.reducePow, Nat.min_eq_left, Nat.min_eq_right, Int.reduceMul, Int.reduceAdd, Int.reduceSub, Int.reduceBEq, Int.reduceBNe, bne_self_eq_false, beq_true, beq_false]; exact rfl); (case ht => simp only [putT, List.set_cons_succ, List.set_cons_zero]; exact rfl); (case hn => first | (simp only [Nat.reduceAdd]; exact rfl) | exact rfl); (case hc => exact rfl))
    | ((with_reducible apply D_skipE); (case hg => first | exact guardA_gone rfl rfl rfl | exact guardA_noT rfl rfl rfl (by with_reducible rfl) | exact guardA_noF rfl rfl rfl (by with_reducible rfl)); (case ht => simp only [putT, List.set_cons_succ, List.set_cons_zero]; exact rfl); (case hn => first | (simp only [Nat.reduceAdd]; exact rfl) | exact rfl); (case hc => exact rfl))
    | ((with_reducible apply AO_callE); (case hg => first | exact guardA_none rfl | exact guardA_yes rfl rfl rfl (by with_reducible rfl)); (case ho => exact rfl); (case ht => exact rfl); (case hp' => first | exact i5 | exact rin_ok _ | exact i4 | exact times_ok _ _ (by omega) (by omega) | exact less_ok p _); (case htm => simp only [putT, List.set_cons_succ, List.set_cons_zero]; exact rfl); (case hn => first | (simp only [Nat.reduceAdd]; exact rfl) | exact rfl))
    | ((with_reducible apply D_callE); (case hg => first | exact guardA_none rfl | exact guardA_yes rfl rfl rfl (by with_reducible rfl)); (case ho => exact rfl); (case ht => exact rfl); (case hp' => first | exact i5 | exact rin_ok _ | exact i4 | exact times_ok _ _ (by omega) (by omega) | exact less_ok p _); (case htm => simp only [putT, List.set_cons_succ, List.set_cons_zero]; exact rfl); (case hn => first | (simp only [Nat.reduceAdd]; exact rfl) | exact rfl); (case hc => exact rfl))
    | ((fail_if_success ((with_reducible apply AO_stepE); (case hg => first | exact guardA_none rfl | exact guardA_yes rfl rfl rfl (by with_reducible rfl)))); (fail_if_success ((with_reducible apply AO_skipE); (case hg => first | exact guardA_gone rfl rfl rfl | exact guardA_noT rfl rfl rfl (by with_reducible rfl) | exact guardA_noF rfl rfl rfl (by with_reducible rfl)))); (with_reducible apply AO_split); (case hg => exact rfl); (case hd => exact rfl); (case hb => exact rfl); (case e1 => simp only [putT, List.set_cons_succ, List.set_cons_zero]; exact rfl); (case e2 => simp only [putT, List.set_cons_succ, List.set_cons_zero]; exact rfl); all_goals intro hg)
    | ((fail_if_success ((with_reducible apply D_stepE); (case hg => first | exact guardA_none rfl | exact guardA_yes rfl rfl rfl (by with_reducible rfl)))); (fail_if_success ((with_reducible apply D_skipE); (case hg => first | exact guardA_gone rfl rfl rfl | exact guardA_noT rfl rfl rfl (by with_reducible rfl) | exact guardA_noF rfl rfl rfl (by with_reducible rfl)))); (with_reducible apply D_split); (case hg => exact rfl); (case hd => exact rfl); (case hb => exact rfl); (case e1 => simp only [putT, List.set_cons_succ, List.set_cons_zero]; exact rfl); (case e2 => simp only [putT, List.set_cons_succ, List.set_cons_zero]; exact rfl); all_goals intro hg)
  · refine retQ_int rfl ?_
    rw [hdef, if_pos hb]
  · refine retQ_int rfl ?_
    simp only [Bool.not_eq_true', decide_eq_false_iff_not, Int.not_lt] at hb
    have h1 : 4611686018427387904 ≤ p / d := by
      rw [Int.le_ediv_iff_mul_le (by omega)]
      exact hb
    rw [hdef, if_neg (by assumption)]
    congr 1
    omega
  · simp only [Bool.not_eq_false', decide_eq_true_eq] at hb
    have hd0 : ¬ d = 0 := by assumption
    have hT0 : 0 ≤ p / d := Int.ediv_nonneg hm.1 hcd.1
    have hT1 : p / d < 4611686018427387904 := by
      rw [Int.ediv_lt_iff_lt_mul (by omega)]
      exact hb
    rw [if_neg hd0, show min (p / d) 4611686018427387904 = p / d by omega] at hdef
    have hle : ∀ x : Int, x ≤ r ↔ x * d ≤ p := fun x => by rw [hdef]; exact Int.le_ediv_iff_mul_le (by omega)
    rw [← hdef] at hT0 hT1
    refine W_for (fun m s => ∃ (i q : Int) (nx : Nat), 12 ≤ nx ∧ -1 ≤ i ∧ i ≤ 61 ∧ m = (i + 1).toNat ∧ q = r / 2 ^ (i + 1).toNat * 2 ^ (i + 1).toNat ∧ s = ⟨[.int .u64 a, .int .u64 b, .int .u64 d, .junk, .junk, .junk, .int .u64 0, .ptr 11 1 0 0, .int .u64 q, .int .i64 i, .junk, .junk, .junk, .junk, .junk, .junk, .junk, .junk, .junk, .junk, .junk, .junk, .junk, .junk, .junk, .junk, .junk, .junk, .junk, .junk, .junk, .junk, .junk, .junk, .junk, .junk, .junk, .junk, .junk, .junk, .junk, .junk, .junk, .junk],
        [(11, .arr 2 [[.int .u64 (p / 18446744073709551616), .int .u64 (p % 18446744073709551616)]])], nx⟩)
      (fun s => ∃ nx : Nat, s = ⟨[.int .u64 a, .int .u64 b, .int .u64 d, .junk, .junk, .junk, .int .u64 0, .ptr 11 1 0 0, .int .u64 r, .junk, .junk, .junk, .junk, .junk, .junk, .junk, .junk, .junk, .junk, .junk, .junk, .junk, .junk, .junk, .junk, .junk, .junk, .junk, .junk, .junk, .junk, .junk, .junk, .junk, .junk, .junk, .junk, .junk, .junk, .junk, .junk, .junk, .junk, .junk],
        [(11, .arr 2 [[.int .u64 (p / 18446744073709551616), .int .u64 (p % 18446744073709551616)]])], nx⟩) 62 _ ⟨61, 0, 20, by omega, by omega, by omega, rfl, ?_, rfl⟩ ⟨by simp [dropL], by simp, rfl⟩ ?_ ?_
    · have : r / 2 ^ (61 + 1 : Int).toNat = 0 := Int.ediv_eq_zero_of_lt hT0 hT1
      rw [this, Int.zero_mul]
    · rintro s ⟨nx, rfl⟩
      repeat' first
        | with_reducible refine W_seq ?_
        | with_reducible refine W_block ?_
        | with_reducible refine W_skip ?_
        | with_reducible refine N_code ?_
        | with_reducible refine N_blk ?_
        | with_reducible refine W_exit ?_
        | with_reducible refine E_blk ?_
        | with_reducible refine E_code ?_
        | with_reducible refine E_blk_ne (by decide) ?_
        | with_reducible refine W_ret ?_
        | with_reducible refine R_code ?_
        | with_reducible refine R_blk ?_
        | with_reducible refine R_nil ?_
        | with_reducible refine L_exit ?_
        | with_reducible refine L_ret ?_
        | with_reducible refine F_ret ?_
        | with_reducible refine F_out (by decide) ?_
        | ((with_reducible apply W_condE); (case hb => exact rfl); (case e1 => simp only [putT, List.set_cons_succ, List.set_cons_zero]; exact rfl); (case e2 => simp only [putT, List.set_cons_succ, List.set_cons_zero]; exact rfl); all_goals (intro hb; first | (exfalso; revert hb; simp; done) | (exfalso; simp at hb; omega) | simp only [beq_iff_eq, beq_eq_false_iff_ne, bne_iff_ne, bne_eq_false_iff_eq, ne_eq, decide_eq_true_eq, decide_eq_false_iff_not, Int.not_lt, Int.not_le] at hb | skip))
        | (with_reducible refine W_reg fun K hK => ?_)
        | (with_reducible refine W_drw mixed (by decide +kernel) fun K hK => ?_)
        | ((with_reducible refine AO_nil (hK _ ?_)); clear hK K)
        | ((with_reducible apply AO_stepE); (case hg => first | exact guardA_none rfl | exact guardA_yes rfl rfl rfl (by with_reducible rfl)); (case hs => simp (maxSteps := 2000000) only [go_sem, true_implies, false_implies, implies_true, reduceCtorEq, and_true, true_and, Nat.reduceAdd, Nat.reduceSub, Nat.reduceMul, Nat.reduceLT, Nat.reduceLeDiff, Nat.reduceEqDiff, Nat.reduceBEq, if_true, if_false, ite_true, ite_false, reduceIte, Bool.false_eq_true, Bool.true_eq_false, Bool.not_true, Bool.not_false, beq_self_eq_true, decide_true, decide_false, Int.reduceNeg, Int.reduceLT, Int.reduceLE, Int.reduceEq, Int.reduceToNat, Int.reducePow, Nat.reducePow, Nat.min_eq_left, Nat.min_eq_right, Int.reduceMul, Int.reduceAdd, Int.reduceSub, Int.reduceBEq, Int.reduceBNe, bne_self_eq_false, beq_true, beq_false]; exact rfl); (case ht => simp only [putT, List.set_cons_succ, List.set_cons_zero]; exact rfl); (case hn => first | (simp only [Nat.reduceAdd]; exact rfl) | exact rfl))
        | ((with_reducible apply AO_skipE); (case hg => first | exact guardA_gone rfl rfl rfl | exact guardA_noT rfl rfl rfl (by with_reducible rfl) | exact guardA_noF rfl rfl rfl (by with_reducible rfl)); (case ht => simp only [putT, List.set_cons_succ, List.set_cons_zero]; exact rfl); (case hn => first | (simp only [Nat.reduceAdd]; exact rfl) | exact rfl))
        | ((with_reducible apply D_end); (case hi => exact rfl); (case hind => first | exact indepB_old hnx (by omega) (by kernel_rfl) (by kernel_rfl) | kernel_rfl); (case hn => first | (simp only [Nat.reduceAdd]; exact rfl) | exact rfl); (with_reducible refine hK _ ?_); clear hK K)
        | ((with_reducible apply D_stepE); (case hg => first | exact guardA_none rfl | exact guardA_yes rfl rfl rfl (by with_reducible rfl)); (case hs => simp (maxSteps := 2000000) only [go_sem, true_implies, false_implies, implies_true, reduceCtorEq, and_true, true_and, Nat.reduceAdd, Nat.reduceSub, Nat.reduceMul, Nat.reduceLT, Nat.reduceLeDiff, Nat.reduceEqDiff, Nat.reduceBEq, if_true, if_false, ite_true, ite_false, reduceIte, Bool.false_eq_true, Bool.true_eq_false, Bool.not_true, Bool.not_false, beq_self_eq_true, decide_true, decide_false, Int.reduceNeg, Int.reduceLT, Int.reduceLE, Int.reduceEq, Int.reduceToNat, Int.reducePow, Nat.reducePow, Nat.min_eq_left, Nat.min_eq_right, Int.reduceMul, Int.reduceAdd, Int.reduceSub, Int.reduceBEq, Int.reduceBNe, bne_self_eq_false, beq_true, beq_false]; exact rfl); (case ht => simp only [putT, List.set_cons_succ, List.set_cons_zero]; exact rfl); (case hn => first | (simp only [Nat.reduceAdd]; exact rfl) | exact rfl); (case hc => exact rfl))
        | ((with_reducible apply D_skipE); (case hg => first | exact guardA_gone rfl rfl rfl | exact guardA_noT rfl rfl rfl (by with_reducible rfl) | exact guardA_noF rfl rfl rfl (by with_reducible rfl)); (case ht => simp only [putT, List.set_cons_succ, List.set_cons_zero]; exact rfl); (case hn => first | (simp only [Nat.reduceAdd]; exact rfl) | exact rfl); (case hc => exact rfl))
        | ((fail_if_success ((with_reducible apply AO_stepE); (case hg => first | exact guardA_none rfl | exact guardA_yes rfl rfl rfl (by with_reducible rfl)))); (fail_if_success ((with_reducible apply AO_skipE); (case hg => first | exact guardA_gone rfl rfl rfl | exact guardA_noT rfl rfl rfl (by with_reducible rfl) | exact guardA_noF rfl rfl rfl (by with_reducible rfl)))); (with_reducible apply AO_split); (case hg => exact rfl); (case hd => exact rfl); (case hb => exact rfl); (case e1 => simp only [putT, List.set_cons_succ, List.set_cons_zero]; exact rfl); (case e2 => simp only [putT, List.set_cons_succ, List.set_cons_zero]; exact rfl); all_goals intro hg)
        | ((fail_if_success ((with_reducible apply D_stepE); (case hg => first | exact guardA_none rfl | exact guardA_yes rfl rfl rfl (by with_reducible rfl)))); (fail_if_success ((with_reducible apply D_skipE); (case hg => first | exact guardA_gone rfl rfl rfl | exact guardA_noT rfl rfl rfl (by with_reducible rfl) | exact guardA_noF rfl rfl rfl (by with_reducible rfl)))); (with_reducible apply D_split); (case hg => exact rfl); (case hd => exact rfl); (case hb => exact rfl); (case e1 => simp only [putT, List.set_cons_succ, List.set_cons_zero]; exact rfl); (case e2 => simp only [putT, List.set_cons_succ, List.set_cons_zero]; exact rfl); all_goals intro hg)
      exact retQ_int rfl rfl
    · rintro m s ⟨i, q, nx, hnx, h1, h2, h3, h4, rfl⟩
      rcases Int.lt_or_le i 0 with hi | hi
      · obtain rfl : i = -1 := by omega
        have e : q = r := by rw [h4]; simp
        repeat' first
          | with_reducible refine W_seq ?_
          | with_reducible refine W_block ?_
          | with_reducible refine W_skip ?_
          | with_reducible refine N_code ?_
          | with_reducible refine N_blk ?_
          | with_reducible refine W_exit ?_
          | with_reducible refine E_blk ?_
          | with_reducible refine E_code ?_
          | with_reducible refine E_blk_ne (by decide) ?_
          | with_reducible refine W_ret ?_
          | with_reducible refine R_code ?_
          | with_reducible refine R_blk ?_
          | with_reducible refine R_nil ?_
          | with_reducible refine L_exit ?_
          | with_reducible refine L_ret ?_
          | with_reducible refine F_ret ?_
          | with_reducible refine F_out (by decide) ?_
          | ((with_reducible apply W_condE); (case hb => exact rfl); (case e1 => simp only [putT, List.set_cons_succ, List.set_cons_zero]; exact rfl); (case e2 => simp only [putT, List.set_cons_succ, List.set_cons_zero]; exact rfl); all_goals (intro hb; first | (exfalso; revert hb; simp; done) | (exfalso; simp at hb; omega) | simp only [beq_iff_eq, beq_eq_false_iff_ne, bne_iff_ne, bne_eq_false_iff_eq, ne_eq, decide_eq_true_eq, decide_eq_false_iff_not, Int.not_lt, Int.not_le] at hb | skip))
          | (with_reducible refine W_reg fun K hK => ?_)
          | (with_reducible refine W_drw mixed (by decide +kernel) fun K hK => ?_)
          | ((with_reducible refine AO_nil (hK _ ?_)); clear hK K)
          | ((with_reducible apply AO_stepE); (case hg => first | exact guardA_none rfl | exact guardA_yes rfl rfl rfl (by with_reducible rfl)); (case hs => simp (maxSteps := 2000000) only [go_sem, true_implies, false_implies, implies_true, reduceCtorEq, and_true, true_and, Nat.reduceAdd, Nat.reduceSub, Nat.reduceMul, Nat.reduceLT, Nat.reduceLeDiff, Nat.reduceEqDiff, Nat.reduceBEq, if_true, if_false, ite_true, ite_false, reduceIte, Bool.false_eq_true, Bool.true_eq_false, Bool.not_true, Bool.not_false, beq_self_eq_true, decide_true, decide_false, Int.reduceNeg, Int.reduceLT, Int.reduceLE, Int.reduceEq, Int.reduceToNat, Int.reducePow, Nat.reducePow, Nat.min_eq_left, Nat.min_eq_right, Int.reduceMul, Int.reduceAdd, Int.reduceSub, Int.reduceBEq, Int.reduceBNe, bne_self_eq_false, beq_true, beq_false]; exact rfl); (case ht => simp only [putT, List.set_cons_succ, List.set_cons_zero]; exact rfl); (case hn => first | (simp only [Nat.reduceAdd]; exact rfl) | exact rfl))
          | ((with_reducible apply AO_skipE); (case hg => first | exact guardA_gone rfl rfl rfl | exact guardA_noT rfl rfl rfl (by with_reducible rfl) | exact guardA_noF rfl rfl rfl (by with_reducible rfl)); (case ht => simp only [putT, List.set_cons_succ, List.set_cons_zero]; exact rfl); (case hn => first | (simp only [Nat.reduceAdd]; exact rfl) | exact rfl))
          | ((with_reducible apply D_end); (case hi => exact rfl); (case hind => first | exact indepB_old hnx (by omega) (by kernel_rfl) (by kernel_rfl) | kernel_rfl); (case hn => first | (simp only [Nat.reduceAdd]; exact rfl) | exact rfl); (with_reducible refine hK _ ?_); clear hK K)
          | ((with_reducible apply D_stepE); (case hg => first | exact guardA_none rfl | exact guardA_yes rfl rfl rfl (by with_reducible rfl)); (case hs => simp (maxSteps := 2000000) only [go_sem, true_implies, false_implies, implies_true, reduceCtorEq, and_true, true_and, Nat.reduceAdd, Nat.reduceSub, Nat.reduceMul, Nat.reduceLT, Nat.reduceLeDiff, Nat.reduceEqDiff, Nat.reduceBEq, if_true, if_false, ite_true, ite_false, reduceIte, Bool.false_eq_true, Bool.true_eq_false, Bool.not_true, Bool.not_false, beq_self_eq_true, decide_true, decide_false, Int.reduceNeg, Int.reduceLT, Int.reduceLE, Int.reduceEq, Int.reduceToNat, Int.reducePow, Nat.reducePow, Nat.min_eq_left, Nat.min_eq_right, Int.reduceMul, Int.reduceAdd, Int.reduceSub, Int.reduceBEq, Int.reduceBNe, bne_self_eq_false, beq_true, beq_false]; exact rfl); (case ht => simp only [putT, List.set_cons_succ, List.set_cons_zero]; exact rfl); (case hn => first | (simp only [Nat.reduceAdd]; exact rfl) | exact rfl); (case hc => exact rfl))
          | ((with_reducible apply D_skipE); (case hg => first | exact guardA_gone rfl rfl rfl | exact guardA_noT rfl rfl rfl (by with_reducible rfl) | exact guardA_noF rfl rfl rfl (by with_reducible rfl)); (case ht => simp only [putT, List.set_cons_succ, List.set_cons_zero]; exact rfl); (case hn => first | (simp only [Nat.reduceAdd]; exact rfl) | exact rfl); (case hc => exact rfl))
          | ((fail_if_success ((with_reducible apply AO_stepE); (case hg => first | exact guardA_none rfl | exact guardA_yes rfl rfl rfl (by with_reducible rfl)))); (fail_if_success ((with_reducible apply AO_skipE); (case hg => first | exact guardA_gone rfl rfl rfl | exact guardA_noT rfl rfl rfl (by with_reducible rfl) | exact guardA_noF rfl rfl rfl (by with_reducible rfl)))); (with_reducible apply AO_split); (case hg => exact rfl); (case hd => exact rfl); (case hb => exact rfl); (case e1 => simp only [putT, List.set_cons_succ, List.set_cons_zero]; exact rfl); (case e2 => simp only [putT, List.set_cons_succ, List.set_cons_zero]; exact rfl); all_goals intro hg)
          | ((fail_if_success ((with_reducible apply D_stepE); (case hg => first | exact guardA_none rfl | exact guardA_yes rfl rfl rfl (by with_reducible rfl)))); (fail_if_success ((with_reducible apply D_skipE); (case hg => first | exact guardA_gone rfl rfl rfl | exact guardA_noT rfl rfl rfl (by with_reducible rfl) | exact guardA_noF rfl rfl rfl (by with_reducible rfl)))); (with_reducible apply D_split); (case hg => exact rfl); (case hd => exact rfl); (case hb => exact rfl); (case e1 => simp only [putT, List.set_cons_succ, List.set_cons_zero]; exact rfl); (case e2 => simp only [putT, List.set_cons_succ, List.set_cons_zero]; exact rfl); all_goals intro hg)
        rw [e]
        exact F_exit ⟨_, ⟨_, rfl⟩, ⟨by simp [dropL], rfl, rfl⟩⟩
      · obtain ⟨k, rfl⟩ : ∃ k : Nat, i = k := ⟨i.toNat, by omega⟩
        have ek : ((k : Int) + 1).toNat = k + 1 := by omega
        rw [ek] at h3 h4
        have hs := half_step r k hT0
        have hr : (r / 2 ^ k) % 2 = 0 ∨ (r / 2 ^ k) % 2 = 1 := by omega
        obtain ⟨D, hD⟩ : ∃ D : Int, D = 2 ^ k := ⟨_, rfl⟩
        have hD0 : 0 < D := by rw [hD]; exact Int.pow_pos (by omega)
        have hD1 : D ≤ 2305843009213693952 := by
          rw [hD]
          have : (2 : Nat) ^ k ≤ 2 ^ 61 := Nat.pow_le_pow_right (by omega) (by omega)
          have h' : ((2 ^ k : Nat) : Int) ≤ ((2 ^ 61 : Nat) : Int) := by omega
          simpa using h'
        have hrd : r = r / D * D + r % D := by have := Int.mul_ediv_add_emod r D; rw [Int.mul_comm] at this; exact this.symm
        have hrm : 0 ≤ r % D ∧ r % D < D := ⟨Int.emod_nonneg _ (by omega), Int.emod_lt_of_pos _ hD0⟩
        have hq0 : q = 2 * (r / 2 ^ (k + 1) * D) := by
          rw [h4, Int.pow_succ, ← hD, Int.mul_comm D 2, ← Int.mul_assoc, Int.mul_comm _ 2, Int.mul_assoc]
        have hX : r / D * D = q + (r / D % 2) * D := by
          rw [hD] at hq0 ⊢
          rw [hq0]
          rw [hD] at hrd
          conv => lhs; rw [hs]
          rw [Int.add_mul, Int.mul_assoc]
        have hx0 : 0 ≤ r / 2 ^ (k + 1) * D := Int.mul_nonneg (Int.ediv_nonneg hT0 (Int.pow_nonneg (by omega))) (by omega)
        rw [← hD] at hr
        have hcase : (r / D % 2 = 0 ∧ r / D * D = q) ∨ (r / D % 2 = 1 ∧ r / D * D = q + D) := by
          rcases hr with h | h
          · rw [h] at hX; left; exact ⟨h, by omega⟩
          · rw [h] at hX; right; exact ⟨h, by omega⟩
        have hq1 : 0 ≤ q ∧ q ≤ r := by omega
        have hqd := hle (q + D)
        have hDd : 0 ≤ d := by omega
        have ew : IntKind.u64.wrap (k : Int) = k := wrap_id (by omega) (by omega)
        have ei : IntKind.i64.wrap ((k : Int) - 1) = k - 1 := by rw [IntKind.wrap_i64]; omega
        have en : ¬ (k : Int) < 0 := by omega
        have et : (k : Int).toNat = k := by omega
        have em : min k 64 = k := by omega
        have ep : IntKind.u64.wrap (1 * 2 ^ k) = D := by rw [← hD, wrap_id (by omega) (by omega)]; omega
        have ep' : IntKind.u64.wrap (2 ^ k) = D := by rw [← hD, wrap_id (by omega) (by omega)]
        have es : IntKind.u64.wrap (q + D) = q + D := wrap_id (by omega) (by omega)
        have i6 := times_ok (q + D) d (by omega) (by omega)
        generalize (q + D) * d = z at *
        repeat' first
          | with_reducible refine W_seq ?_
          | with_reducible refine W_block ?_
          | with_reducible refine W_skip ?_
          | with_reducible refine N_code ?_
          | with_reducible refine N_blk ?_
          | with_reducible refine W_exit ?_
          | with_reducible refine E_blk ?_
          | with_reducible refine E_code ?_
          | with_reducible refine E_blk_ne (by decide) ?_
          | with_reducible refine W_ret ?_
          | with_reducible refine R_code ?_
          | with_reducible refine R_blk ?_
          | with_reducible refine R_nil ?_
          | with_reducible refine L_exit ?_
          | with_reducible refine L_ret ?_
          | with_reducible refine F_ret ?_
          | with_reducible refine F_out (by decide) ?_
          | ((with_reducible apply W_condE); (case hb => exact rfl); (case e1 => simp only [putT, List.set_cons_succ, List.set_cons_zero]; exact rfl); (case e2 => simp only [putT, List.set_cons_succ, List.set_cons_zero]; exact rfl); all_goals (intro hb; first | (exfalso; revert hb; simp; done) | (exfalso; simp at hb; omega) | simp only [beq_iff_eq, beq_eq_false_iff_ne, bne_iff_ne, bne_eq_false_iff_eq, ne_eq, decide_eq_true_eq, decide_eq_false_iff_not, Int.not_lt, Int.not_le] at hb | skip))
          | (with_reducible refine W_reg fun K hK => ?_)
          | (with_reducible refine W_drw mixed (by decide +kernel) fun K hK => ?_)
          | ((with_reducible refine AO_nil (hK _ ?_)); clear hK K)
          | ((with_reducible apply AO_stepE); (case hg => first | exact guardA_none rfl | exact guardA_yes rfl rfl rfl (by with_reducible rfl)); (case hs => simp (maxSteps := 2000000) only [go_sem, true_implies, false_implies, implies_true, reduceCtorEq, and_true, true_and, Nat.reduceAdd, Nat.reduceSub, Nat.reduceMul, Nat.reduceLT, Nat.reduceLeDiff, Nat.reduceEqDiff, Nat.reduceBEq, if_true, if_false, ite_true, ite_false, reduceIte, Bool.false_eq_true, Bool.true_eq_false, Bool.not_true, Bool.not_false, beq_self_eq_true, decide_true, decide_false, Int.reduceNeg, Int.reduceLT, Int.reduceLE, Int.reduceEq, Int.reduceToNat, Int.reducePow, Nat.reducePow, Nat.min_eq_left, Nat.min_eq_right, Int.reduceMul, Int.reduceAdd, Int.reduceSub, Int.reduceBEq, Int.reduceBNe, bne_self_eq_false, beq_true, beq_false, ew, ei, en, et, em, ep, ep', es]; exact rfl); (case ht => simp only [putT, List.set_cons_succ, List.set_cons_zero]; exact rfl); (case hn => first | (simp only [Nat.reduceAdd]; exact rfl) | exact rfl))
          | ((with_reducible apply AO_skipE); (case hg => first | exact guardA_gone rfl rfl rfl | exact guardA_noT rfl rfl rfl (by with_reducible rfl) | exact guardA_noF rfl rfl rfl (by with_reducible rfl)); (case ht => simp only [putT, List.set_cons_succ, List.set_cons_zero]; exact rfl); (case hn => first | (simp only [Nat.reduceAdd]; exact rfl) | exact rfl))
          | ((with_reducible apply D_end); (case hi => exact rfl); (case hind => first | exact indepB_old hnx (by omega) (by kernel_rfl) (by kernel_rfl) | kernel_rfl); (case hn => first | (simp only [Nat.reduceAdd]; exact rfl) | exact rfl); (with_reducible refine hK _ ?_); clear hK K)
          | ((with_reducible apply D_stepE); (case hg => first | exact guardA_none rfl | exact guardA_yes rfl rfl rfl (by with_reducible rfl)); (case hs => simp (maxSteps := 2000000) only [go_sem, true_implies, false_implies, implies_true, reduceCtorEq, and_true, true_and, Nat.reduceAdd, Nat.reduceSub, Nat.reduceMul, Nat.reduceLT, Nat.reduceLeDiff, Nat.reduceEqDiff, Nat.reduceBEq, if_true, if_false, ite_true, ite_false, reduceIte, Bool.false_eq_true, Bool.true_eq_false, Bool.not_true, Bool.not_false, beq_self_eq_true, decide_true, decide_false, Int.reduceNeg, Int.reduceLT, Int.reduceLE, Int.reduceEq, Int.reduceToNat, Int.reducePow, Nat.reducePow, Nat.min_eq_left, Nat.min_eq_right, Int.reduceMul, Int.reduceAdd, Int.reduceSub, Int.reduceBEq, Int.reduceBNe, bne_self_eq_false, beq_true, beq_false, ew, ei, en, et, em, ep, ep', es]; exact rfl); (case ht => simp only [putT, List.set_cons_succ, List.set_cons_zero]; exact rfl); (case hn => first | (simp only [Nat.reduceAdd]; exact rfl) | exact rfl); (case hc => exact rfl))
          | ((with_reducible apply D_skipE); (case hg => first | exact guardA_gone rfl rfl rfl | exact guardA_noT rfl rfl rfl (by with_reducible rfl) | exact guardA_noF rfl rfl rfl (by with_reducible rfl)); (case ht => simp only [putT, List.set_cons_succ, List.set_cons_zero]; exact rfl); (case hn => first | (simp only [Nat.reduceAdd]; exact rfl) | exact rfl); (case hc => exact rfl))
          | ((with_reducible apply AO_callE); (case hg => first | exact guardA_none rfl | exact guardA_yes rfl rfl rfl (by with_reducible rfl)); (case ho => exact rfl); (case ht => exact rfl); (case hp' => first | exact i6 | exact less_ok p z); (case htm => simp only [putT, List.set_cons_succ, List.set_cons_zero]; exact rfl); (case hn => first | (simp only [Nat.reduceAdd]; exact rfl) | exact rfl))
          | ((with_reducible apply D_callE); (case hg => first | exact guardA_none rfl | exact guardA_yes rfl rfl rfl (by with_reducible rfl)); (case ho => exact rfl); (case ht => exact rfl); (case hp' => first | exact i6 | exact less_ok p z); (case htm => simp only [putT, List.set_cons_succ, List.set_cons_zero]; exact rfl); (case hn => first | (simp only [Nat.reduceAdd]; exact rfl) | exact rfl); (case hc => exact rfl))
          | ((fail_if_success ((with_reducible apply AO_stepE); (case hg => first | exact guardA_none rfl | exact guardA_yes rfl rfl rfl (by with_reducible rfl)))); (fail_if_success ((with_reducible apply AO_skipE); (case hg => first | exact guardA_gone rfl rfl rfl | exact guardA_noT rfl rfl rfl (by with_reducible rfl) | exact guardA_noF rfl rfl rfl (by with_reducible rfl)))); (with_reducible apply AO_split); (case hg => exact rfl); (case hd => exact rfl); (case hb => exact rfl); (case e1 => simp only [putT, List.set_cons_succ, List.set_cons_zero]; exact rfl); (case e2 => simp only [putT, List.set_cons_succ, List.set_cons_zero]; exact rfl); all_goals intro hg)
          | ((fail_if_success ((with_reducible apply D_stepE); (case hg => first | exact guardA_none rfl | exact guardA_yes rfl rfl rfl (by with_reducible rfl)))); (fail_if_success ((with_reducible apply D_skipE); (case hg => first | exact guardA_gone rfl rfl rfl | exact guardA_noT rfl rfl rfl (by with_reducible rfl) | exact guardA_noF rfl rfl rfl (by with_reducible rfl)))); (with_reducible apply D_split); (case hg => exact rfl); (case hd => exact rfl); (case hb => exact rfl); (case e1 => simp only [putT, List.set_cons_succ, List.set_cons_zero]; exact rfl); (case e2 => simp only [putT, List.set_cons_succ, List.set_cons_zero]; exact rfl); all_goals intro hg)
        all_goals simp only [Bool.not_eq_true', Bool.not_eq_false', decide_eq_true_eq, decide_eq_false_iff_not, Int.not_lt] at *
        · refine F_next ⟨k, by omega, _, ⟨(k : Int) - 1, q + D, _, by omega, by omega, by omega, by omega, ?_, rfl⟩, ⟨by simp [dropL], rfl, rfl⟩⟩
          have e1 : ((k : Int) - 1 + 1).toNat = k := by omega
          rw [e1, ← hD]
          omega
        · refine F_next ⟨k, by omega, _, ⟨(k : Int) - 1, q, _, by omega, by omega, by omega, by omega, ?_, rfl⟩, ⟨by simp [dropL], rfl, rfl⟩⟩
          have e1 : ((k : Int) - 1 + 1).toNat = k := by omega
          rw [e1, ← hD]
          omega

theorem fixProducts_ok (a b c : Int) (ha : 0 ≤ a) (hb0 : 0 ≤ b) (hc0 : 0 ≤ c) : PCall Try.prog 6 [.int .u64 a, .int .u64 b, .int .u64 c] (· = .bool true) := by
  have i1 := mul_ok a b ha hb0
  have i2 := rmul_ok a b ha hb0
  generalize (min (min a 4611686018427387904 * min b 4611686018427387904) 4611686018427387904) = p at *
  have i3 := muldiv_ok a b c ha hb0 hc0
  have i4 := rmuldiv_ok a b c ha hb0 hc0
  generalize mdv a b c = q at *
  refine PCall_intro (c := Try.f6.body.getD .skip) Try.func6 rfl (by decide +kernel) (by simp [Fz.int_iff, Fz.bool_iff, Fz.agg_iff, Fz.str_iff]) (W_start ?_)
  simp only [Try.f6, go_sem, Nat.reduceAdd, Nat.reduceSub]
  repeat' first
    | with_reducible refine W_seq ?_
    | with_reducible refine W_block ?_
    | with_reducible refine W_skip ?_
    | with_reducible refine N_code ?_
    | with_reducible refine N_blk ?_
    | with_reducible refine W_exit ?_
    | with_reducible refine E_blk ?_
    | with_reducible refine E_code ?_
    | with_reducible refine E_blk_ne (by decide) ?_
    | with_reducible refine W_ret ?_
    | with_reducible refine R_code ?_
    | with_reducible refine R_blk ?_
    | with_reducible refine R_nil ?_
    | with_reducible refine L_exit ?_
    | with_reducible refine L_ret ?_
    | with_reducible refine F_ret ?_
    | with_reducible refine F_out (by decide) ?_
    | ((with_reducible apply W_condE); (case hb => exact rfl); (case e1 => simp only [putT, List.set_cons_succ, List.set_cons_zero]; exact rfl); (case e2 => simp only [putT, List.set_cons_succ, List.set_cons_zero]; exact rfl); all_goals (intro hb; first | (exfalso; revert hb; simp; done) | (exfalso; simp at hb; omega) | simp only [beq_iff_eq, beq_eq_false_iff_ne, bne_iff_ne, bne_eq_false_iff_eq, ne_eq, decide_eq_true_eq, decide_eq_false_iff_not, Int.not_lt, Int.not_le] at hb | skip))
    | (with_reducible refine W_reg fun K hK => ?_)
    | (with_reducible refine W_drw mixed (by decide +kernel) fun K hK => ?_)
    | ((with_reducible refine AO_nil (hK _ ?_)); clear hK K)
    | ((with_reducible apply AO_stepE); (case hg => first | exact guardA_none rfl | exact guardA_yes rfl rfl rfl (by with_reducible rfl)); (case hs => simp (maxSteps := 2000000) only [go_sem, true_implies, false_implies, implies_true, reduceCtorEq, and_true, true_and, Nat.reduceAdd, Nat.reduceSub, Nat.reduceMul, Nat.reduceLT, Nat.reduceLeDiff, Nat.reduceEqDiff, Nat.reduceBEq, if_true, if_false, ite_true, ite_false, reduceIte, Bool.false_eq_true, Bool.true_eq_false, Bool.not_true, Bool.not_false, beq_self_eq_true, decide_true, decide_false, Int.reduceNeg, Int.reduceLT, Int.reduceLE, Int.reduceEq, Int.reduceToNat, Int.reducePow, Nat.reducePow, Nat.min_eq_left, Nat.min_eq_right, Int.reduceMul, Int.reduceAdd, Int.reduceSub, Int.reduceBEq, Int.reduceBNe, bne_self_eq_false, beq_true, beq_false]; exact rfl); (case ht => simp only [putT, List.set_cons_succ, List.set_cons_zero]; exact rfl); (case hn => first | (simp only [Nat.reduceAdd]; exact rfl) | exact rfl))
    | ((with_reducible apply AO_skipE); (case hg => first | exact guardA_gone rfl rfl rfl | exact guardA_noT rfl rfl rfl (by with_reducible rfl) | exact guardA_noF rfl rfl rfl (by with_reducible rfl)); (case ht => simp only [putT, List.set_cons_succ, List.set_cons_zero]; exact rfl); (case hn => first | (simp only [Nat.reduceAdd]; exact rfl) | exact rfl))
    | ((with_reducible apply D_end); (case hi => exact rfl); (case hind => first | exact indepB_old hnx (by omega) (by kernel_rfl) (by kernel_rfl) | kernel_rfl); (case hn => first | (simp only [Nat.reduceAdd]; exact rfl) | exact rfl); (with_reducible refine hK _ ?_); clear hK K)
    | ((with_reducible apply D_stepE); (case hg => first | exact guardA_none rfl | exact guardA_yes rfl rfl rfl (by with_reducible rfl)); (case hs => simp (maxSteps := 2000000) only [go_sem, true_implies, false_implies, implies_true, reduceCtorEq, and_true, true_and, Nat.reduceAdd, Nat.reduceSub, Nat.reduceMul, Nat.reduceLT, Nat.reduceLeDiff, Nat.reduceEqDiff, Nat.reduceBEq, if_true, if_false, ite_true, ite_false, reduceIte, Bool.false_eq_true, Bool.true_eq_false, Bool.not_true, Bool.not_false, beq_self_eq_true, decide_true, decide_false, Int.reduceNeg, Int.reduceLT, Int.reduceLE, Int.reduceEq, Int.reduceToNat, Int.reducePow, Nat.reducePow, Nat.min_eq_left, Nat.min_eq_right, Int.reduceMul, Int.reduceAdd, Int.reduceSub, Int.reduceBEq, Int.reduceBNe, bne_self_eq_false, beq_true, beq_false]; exact rfl); (case ht => simp only [putT, List.set_cons_succ, List.set_cons_zero]; exact rfl); (case hn => first | (simp only [Nat.reduceAdd]; exact rfl) | exact rfl); (case hc => exact rfl))
    | ((with_reducible apply D_skipE); (case hg => first | exact guardA_gone rfl rfl rfl | exact guardA_noT rfl rfl rfl (by with_reducible rfl) | exact guardA_noF rfl rfl rfl (by with_reducible rfl)); (case ht => simp only [putT, List.set_cons_succ, List.set_cons_zero]; exact rfl); (case hn => first | (simp only [Nat.reduceAdd]; exact rfl) | exact rfl); (case hc => exact rfl))
    | ((with_reducible apply AO_callE); (case hg => first | exact guardA_none rfl | exact guardA_yes rfl rfl rfl (by with_reducible rfl)); (case ho => exact rfl); (case ht => exact rfl); (case hp' => first | exact awake_ok | exact i1 | exact i2 | exact i3 | exact i4); (case htm => simp only [putT, List.set_cons_succ, List.set_cons_zero]; exact rfl); (case hn => first | (simp only [Nat.reduceAdd]; exact rfl) | exact rfl))
    | ((with_reducible apply D_callE); (case hg => first | exact guardA_none rfl | exact guardA_yes rfl rfl rfl (by with_reducible rfl)); (case ho => exact rfl); (case ht => exact rfl); (case hp' => first | exact awake_ok | exact i1 | exact i2 | exact i3 | exact i4); (case htm => simp only [putT, List.set_cons_succ, List.set_cons_zero]; exact rfl); (case hn => first | (simp only [Nat.reduceAdd]; exact rfl) | exact rfl); (case hc => exact rfl))
    | ((fail_if_success ((with_reducible apply AO_stepE); (case hg => first | exact guardA_none rfl | exact guardA_yes rfl rfl rfl (by with_reducible rfl)))); (fail_if_success ((with_reducible apply AO_skipE); (case hg => first | exact guardA_gone rfl rfl rfl | exact guardA_noT rfl rfl rfl (by with_reducible rfl) | exact guardA_noF rfl rfl rfl (by with_reducible rfl)))); (with_reducible apply AO_split); (case hg => exact rfl); (case hd => exact rfl); (case hb => exact rfl); (case e1 => simp only [putT, List.set_cons_succ, List.set_cons_zero]; exact rfl); (case e2 => simp only [putT, List.set_cons_succ, List.set_cons_zero]; exact rfl); all_goals intro hg)
    | ((fail_if_success ((with_reducible apply D_stepE); (case hg => first | exact guardA_none rfl | exact guardA_yes rfl rfl rfl (by with_reducible rfl)))); (fail_if_success ((with_reducible apply D_skipE); (case hg => first | exact guardA_gone rfl rfl rfl | exact guardA_noT rfl rfl rfl (by with_reducible rfl) | exact guardA_noF rfl rfl rfl (by with_reducible rfl)))); (with_reducible apply D_split); (case hg => exact rfl); (case hd => exact rfl); (case hb => exact rfl); (case e1 => simp only [putT, List.set_cons_succ, List.set_cons_zero]; exact rfl); (case e2 => simp only [putT, List.set_cons_succ, List.set_cons_zero]; exact rfl); all_goals intro hg)
  all_goals refine retQ_bool rfl ?_
  all_goals simp

def adF (a b : Int) : Int := min (min a 4611686018427387904 + min b 4611686018427387904) 4611686018427387904
def sbF (a b : Int) : Int := max 0 (min a 4611686018427387904 - min b 4611686018427387904)
def muF (a b : Int) : Int := min (min a 4611686018427387904 * min b 4611686018427387904) 4611686018427387904

theorem adF_nn {a b : Int} (ha : 0 ≤ a) (hb : 0 ≤ b) : 0 ≤ adF a b := by unfold adF; omega
theorem adF_comm (a b : Int) : adF b a = adF a b := by unfold adF; omega
theorem adF_assoc {a b c : Int} (ha : 0 ≤ a) (hb : 0 ≤ b) (hc : 0 ≤ c) : adF (adF a b) c = adF a (adF b c) := by unfold adF; omega
theorem muF_comm (a b : Int) : muF b a = muF a b := by unfold muF; rw [Int.mul_comm]
theorem adF_mono {l h c : Int} (hl : l ≤ h) : adF l c ≤ adF h c := by unfold adF; omega
theorem sbF_mono {l h c : Int} (hl : l ≤ h) : sbF l c ≤ sbF h c := by unfold sbF; omega
theorem sbF_anti {l h c : Int} (hl : l ≤ h) : sbF c h ≤ sbF c l := by unfold sbF; omega
theorem muF_mono {l h c : Int} (hl : l ≤ h) (hc : 0 ≤ c) : muF l c ≤ muF h c := by
  unfold muF
  have := Int.mul_le_mul_of_nonneg_right (show min l 4611686018427387904 ≤ min h 4611686018427387904 by omega) (show 0 ≤ min c 4611686018427387904 by omega)
  omega
theorem mdv_le (a b c : Int) : mdv a b c ≤ 4611686018427387904 := by unfold mdv; split <;> omega
theorem div_anti {p l h : Int} (hp : 0 ≤ p) (hl : 0 < l) (hh : l ≤ h) : p / h ≤ p / l := by
  rw [Int.le_ediv_iff_mul_le hl]
  have h1 := Int.mul_le_mul_of_nonneg_left hh (Int.ediv_nonneg hp (show 0 ≤ h by omega))
  have h2 := Int.ediv_mul_le p (show h ≠ 0 by omega)
  omega
theorem mdv_anti {a b l h : Int} (ha : 0 ≤ a) (hb : 0 ≤ b) (hl0 : 0 ≤ l) (hl : l ≤ h) : mdv a b h ≤ mdv a b l := by
  have hm := mul_lt (x := min a 4611686018427387904) (y := min b 4611686018427387904) (by omega) (by omega)
  unfold mdv
  generalize min a 4611686018427387904 * min b 4611686018427387904 = p at *
  by_cases h1 : min l 4611686018427387904 = 0
  · rw [if_pos h1]; split <;> omega
  · rw [if_neg h1, if_neg (by omega)]
    have := div_anti (p := p) (l := min l 4611686018427387904) (h := min h 4611686018427387904) hm.1 (by omega) (by omega)
    omega
theorem mdv_mono {l h c b : Int} (hl : l ≤ h) (hc : 0 ≤ c) (hb : 0 ≤ b) : mdv l c b ≤ mdv h c b := by
  unfold mdv
  by_cases h1 : min b 4611686018427387904 = 0
  · rw [if_pos h1, if_pos h1]; exact Int.le_refl _
  · rw [if_neg h1, if_neg h1]
    have h2 := Int.mul_le_mul_of_nonneg_right (show min l 4611686018427387904 ≤ min h 4611686018427387904 by omega) (show 0 ≤ min c 4611686018427387904 by omega)
    have h3 := Int.ediv_le_ediv (show 0 < min b 4611686018427387904 by omega) h2
    omega

theorem add_ok' (a b : Int) (ha : 0 ≤ a) (hb0 : 0 ≤ b) : PCall Try.prog 10 [.int .u64 a, .int .u64 b] (· = .int .u64 (adF a b)) := add_ok a b ha hb0
theorem sub_ok' (a b : Int) (ha : 0 ≤ a) (hb0 : 0 ≤ b) : PCall Try.prog 12 [.int .u64 a, .int .u64 b] (· = .int .u64 (sbF a b)) := sub_ok a b ha hb0
theorem mul_ok' (a b : Int) (ha : 0 ≤ a) (hb0 : 0 ≤ b) : PCall Try.prog 16 [.int .u64 a, .int .u64 b] (· = .int .u64 (muF a b)) := mul_ok a b ha hb0

theorem fixOrder_ok (a b c : Int) (ha : 0 ≤ a) (hb0 : 0 ≤ b) (hc0 : 0 ≤ c) : PCall Try.prog 7 [.int .u64 a, .int .u64 b, .int .u64 c] (· = .bool true) := by
  have n1 := adF_nn ha hb0
  have n2 := adF_nn hb0 hc0
  have e1 := adF_comm a b
  have e2 := muF_comm a b
  have e3 := adF_assoc ha hb0 hc0
  obtain ⟨l, hl⟩ : ∃ l, min a b = l := ⟨_, rfl⟩
  obtain ⟨h, hh⟩ : ∃ l, max a b = l := ⟨_, rfl⟩
  have hlh : l ≤ h := by omega
  have l0 : 0 ≤ l := by omega
  have h0 : 0 ≤ h := by omega
  have g1 : decide (adF l c ≤ adF h c) = true := decide_eq_true (adF_mono hlh)
  have g2 : decide (muF l c ≤ muF h c) = true := decide_eq_true (muF_mono hlh hc0)
  have g3 : decide (sbF l c ≤ sbF h c) = true := decide_eq_true (sbF_mono hlh)
  have g4 : decide (sbF c h ≤ sbF c l) = true := decide_eq_true (sbF_anti hlh)
  have g5 : decide (mdv c a h ≤ mdv c a l) = true := decide_eq_true (mdv_anti hc0 ha l0 hlh)
  have g6 : decide (mdv l c b ≤ mdv h c b) = true := decide_eq_true (mdv_mono hlh hc0 hb0)
  refine PCall_intro (c := Try.f7.body.getD .skip) Try.func7 rfl (by decide +kernel) (by simp [Fz.int_iff, Fz.bool_iff, Fz.agg_iff, Fz.str_iff]) (W_start ?_)
  simp only [Try.f7, go_sem, Nat.reduceAdd, Nat.reduceSub]
  repeat' first
    | with_reducible refine W_seq ?_
    | with_reducible refine W_block ?_
    | with_reducible refine W_skip ?_
    | with_reducible refine N_code ?_
    | with_reducible refine N_blk ?_
    | with_reducible refine W_exit ?_
    | with_reducible refine E_blk ?_
    | with_reducible refine E_code ?_
    | with_reducible refine E_blk_ne (by decide) ?_
    | with_reducible refine W_ret ?_
    | with_reducible refine R_code ?_
    | with_reducible refine R_blk ?_
    | with_reducible refine R_nil ?_
    | with_reducible refine L_exit ?_
    | with_reducible refine L_ret ?_
    | with_reducible refine F_ret ?_
    | with_reducible refine F_out (by decide) ?_
    | ((with_reducible apply W_condE); (case hb => exact rfl); (case e1 => simp only [putT, List.set_cons_succ, List.set_cons_zero]; exact rfl); (case e2 => simp only [putT, List.set_cons_succ, List.set_cons_zero]; exact rfl); all_goals (intro hb; first | (exfalso; revert hb; simp; done) | (exfalso; simp at hb; omega) | simp only [beq_iff_eq, beq_eq_false_iff_ne, bne_iff_ne, bne_eq_false_iff_eq, ne_eq, decide_eq_true_eq, decide_eq_false_iff_not, Int.not_lt, Int.not_le] at hb | skip))
    | (with_reducible refine W_reg fun K hK => ?_)
    | (with_reducible refine W_drw mixed (by decide +kernel) fun K hK => ?_)
    | ((with_reducible refine AO_nil (hK _ ?_)); clear hK K)
    | ((with_reducible apply AO_stepE); (case hg => first | exact guardA_none rfl | exact guardA_yes rfl rfl rfl (by with_reducible rfl)); (case hs => simp (maxSteps := 2000000) only [go_sem, true_implies, false_implies, implies_true, reduceCtorEq, and_true, true_and, Nat.reduceAdd, Nat.reduceSub, Nat.reduceMul, Nat.reduceLT, Nat.reduceLeDiff, Nat.reduceEqDiff, Nat.reduceBEq, if_true, if_false, ite_true, ite_false, reduceIte, Bool.false_eq_true, Bool.true_eq_false, Bool.not_true, Bool.not_false, beq_self_eq_true, decide_true, decide_false, Int.reduceNeg, Int.reduceLT, Int.reduceLE, Int.reduceEq, Int.reduceToNat, Int.reducePow, Nat.reducePow, Nat.min_eq_left, Nat.min_eq_right, Int.reduceMul, Int.reduceAdd, Int.reduceSub, Int.reduceBEq, Int.reduceBNe, bne_self_eq_false, beq_true, beq_false, e1, e2, e3, hl, hh, g1, g2, g3, g4, g5, g6]; exact rfl); (case ht => simp only [putT, List.set_cons_succ, List.set_cons_zero]; exact rfl); (case hn => first | (simp only [Nat.reduceAdd]; exact rfl) | exact rfl))
    | ((with_reducible apply AO_skipE); (case hg => first | exact guardA_gone rfl rfl rfl | exact guardA_noT rfl rfl rfl (by with_reducible rfl) | exact guardA_noF rfl rfl rfl (by with_reducible rfl)); (case ht => simp only [putT, List.set_cons_succ, List.set_cons_zero]; exact rfl); (case hn => first | (simp only [Nat.reduceAdd]; exact rfl) | exact rfl))
    | ((with_reducible apply D_end); (case hi => exact rfl); (case hind => first | exact indepB_old hnx (by omega) (by kernel_rfl) (by kernel_rfl) | kernel_rfl); (case hn => first | (simp only [Nat.reduceAdd]; exact rfl) | exact rfl); (with_reducible refine hK _ ?_); clear hK K)
    | ((with_reducible apply D_stepE); (case hg => first | exact guardA_none rfl | exact guardA_yes rfl rfl rfl (by with_reducible rfl)); (case hs => simp (maxSteps := 2000000) only [go_sem, true_implies, false_implies, implies_true, reduceCtorEq, and_true, true_and, Nat.reduceAdd, Nat.reduceSub, Nat.reduceMul, Nat.reduceLT, Nat.reduceLeDiff, Nat.reduceEqDiff, Nat.reduceBEq, if_true, if_false, ite_true, ite_false, reduceIte, Bool.false_eq_true, Bool.true_eq_false, Bool.not_true, Bool.not_false, beq_self_eq_true, decide_true, decide_false, Int.reduceNeg, Int.reduceLT, Int.reduceLE, Int.reduceEq, Int.reduceToNat, Int.reducePow, Nat.reducePow, Nat.min_eq_left, Nat.min_eq_right, Int.reduceMul, Int.reduceAdd, Int.reduceSub, Int.reduceBEq, Int.reduceBNe, bne_self_eq_false, beq_true, beq_false, e1, e2, e3, hl, hh, g1, g2, g3, g4, g5, g6]; exact rfl); (case ht => simp only [putT, List.set_cons_succ, List.set_cons_zero]; exact rfl); (case hn => first | (simp only [Nat.reduceAdd]; exact rfl) | exact rfl); (case hc => exact rfl))
    | ((with_reducible apply D_skipE); (case hg => first | exact guardA_gone rfl rfl rfl | exact guardA_noT rfl rfl rfl (by with_reducible rfl) | exact guardA_noF rfl rfl rfl (by with_reducible rfl)); (case ht => simp only [putT, List.set_cons_succ, List.set_cons_zero]; exact rfl); (case hn => first | (simp only [Nat.reduceAdd]; exact rfl) | exact rfl); (case hc => exact rfl))
    | ((with_reducible apply AO_callE); (case hg => first | exact guardA_none rfl | exact guardA_yes rfl rfl rfl (by with_reducible rfl)); (case ho => exact rfl); (case ht => exact rfl); (case hp' => first | exact awake_ok | exact add_ok' _ _ (by assumption) (by assumption) | exact sub_ok' _ _ (by assumption) (by assumption) | exact mul_ok' _ _ (by assumption) (by assumption) | exact muldiv_ok _ _ _ (by assumption) (by assumption) (by assumption)); (case htm => simp only [putT, List.set_cons_succ, List.set_cons_zero]; exact rfl); (case hn => first | (simp only [Nat.reduceAdd]; exact rfl) | exact rfl))
    | ((with_reducible apply D_callE); (case hg => first | exact guardA_none rfl | exact guardA_yes rfl rfl rfl (by with_reducible rfl)); (case ho => exact rfl); (case ht => exact rfl); (case hp' => first | exact awake_ok | exact add_ok' _ _ (by assumption) (by assumption) | exact sub_ok' _ _ (by assumption) (by assumption) | exact mul_ok' _ _ (by assumption) (by assumption) | exact muldiv_ok _ _ _ (by assumption) (by assumption) (by assumption)); (case htm => simp only [putT, List.set_cons_succ, List.set_cons_zero]; exact rfl); (case hn => first | (simp only [Nat.reduceAdd]; exact rfl) | exact rfl); (case hc => exact rfl))
    | ((fail_if_success ((with_reducible apply AO_stepE); (case hg => first | exact guardA_none rfl | exact guardA_yes rfl rfl rfl (by with_reducible rfl)))); (fail_if_success ((with_reducible apply AO_skipE); (case hg => first | exact guardA_gone rfl rfl rfl | exact guardA_noT rfl rfl rfl (by with_reducible rfl) | exact guardA_noF rfl rfl rfl (by with_reducible rfl)))); (with_reducible apply AO_split); (case hg => exact rfl); (case hd => exact rfl); (case hb => exact rfl); (case e1 => simp only [putT, List.set_cons_succ, List.set_cons_zero]; exact rfl); (case e2 => simp only [putT, List.set_cons_succ, List.set_cons_zero]; exact rfl); all_goals intro hg)
    | ((fail_if_success ((with_reducible apply D_stepE); (case hg => first | exact guardA_none rfl | exact guardA_yes rfl rfl rfl (by with_reducible rfl)))); (fail_if_success ((with_reducible apply D_skipE); (case hg => first | exact guardA_gone rfl rfl rfl | exact guardA_noT rfl rfl rfl (by with_reducible rfl) | exact guardA_noF rfl rfl rfl (by with_reducible rfl)))); (with_reducible apply D_split); (case hg => exact rfl); (case hd => exact rfl); (case hb => exact rfl); (case e1 => simp only [putT, List.set_cons_succ, List.set_cons_zero]; exact rfl); (case e2 => simp only [putT, List.set_cons_succ, List.set_cons_zero]; exact rfl); all_goals intro hg)
  all_goals trace_state
  all_goals refine retQ_bool rfl ?_
  all_goals rfl

theorem fixBack_ok (a b : Int) (ha : 0 ≤ a) (hb0 : 0 ≤ b) (ha1 : a < 18446744073709551616) (hb1 : b < 18446744073709551616) : PCall Try.prog 8 [.int .u64 a, .int .u64 b] (· = .bool true) := by
  have i1 := add_ok' a b ha hb0
  have n1 := adF_nn ha hb0
  have i2 := sub_ok' (adF a b) b n1 hb0
  have i3 := sub_ok' (adF a b) a n1 ha
  have i4 := muldiv_ok a b b ha hb0 hb0
  have i5 := cmp_ok a b a b ⟨ha, ha1⟩ ⟨hb0, hb1⟩ ⟨ha, ha1⟩ ⟨hb0, hb1⟩
  have i6 := mul_ok' a b ha hb0
  have hm := mul_lt (x := min a 4611686018427387904) (y := min b 4611686018427387904) (by omega) (by omega)
  have i7 := muldiv_ok (muF a b) 1 b (by unfold muF; omega) (by omega) hb0
  have f1 : adF a b < 4611686018427387904 → sbF (adF a b) b = a ∧ sbF (adF a b) a = b := by unfold adF sbF; omega
  have f2 : 0 < b → b ≤ 4611686018427387904 → a ≤ 4611686018427387904 → mdv a b b = a := fun h1 h2 h3 => by
    unfold mdv
    rw [show min b 4611686018427387904 = b by omega, show min a 4611686018427387904 = a by omega, if_neg (by omega), Int.mul_ediv_cancel _ (by omega)]
    omega
  have f3 : (if b = 0 then if b = 0 then (0 : Int) else 1 else if b = 0 then -1 else if a * b < a * b then -1 else if a * b < a * b then 1 else 0) = 0 := by
    split <;> simp
  have f4 : muF a b < 4611686018427387904 → ¬ b = 0 → mdv (muF a b) 1 b = a := fun h1 h2 => by
    have hlt : a < 4611686018427387904 ∧ b < 4611686018427387904 ∨ a = 0 := by
      unfold muF at h1
      have hA : 0 ≤ min a 4611686018427387904 := by omega
      have hB : 1 ≤ min b 4611686018427387904 := by omega
      have x1 := Int.mul_le_mul_of_nonneg_left hB hA
      rcases Int.lt_or_le 0 a with h0 | h0
      · have x2 := Int.mul_le_mul_of_nonneg_right (show 1 ≤ min a 4611686018427387904 by omega) (show 0 ≤ min b 4611686018427387904 by omega)
        omega
      · right; omega
    rcases hlt with ⟨h3, h4⟩ | h3
    · unfold muF at h1 ⊢
      rw [show min b 4611686018427387904 = b by omega, show min a 4611686018427387904 = a by omega] at *
      unfold mdv
      rw [show min b 4611686018427387904 = b by omega, if_neg h2, show min (min (a * b) 4611686018427387904) 4611686018427387904 = a * b by omega, show min (1 : Int) 4611686018427387904 = 1 by omega, Int.mul_one, Int.mul_ediv_cancel _ h2]
      omega
    · subst h3
      have e : muF 0 b = 0 := by unfold muF; rw [show min (0 : Int) 4611686018427387904 = 0 by omega, Int.zero_mul]; omega
      rw [e]
      unfold mdv
      rw [if_neg (by omega), show min (0 : Int) 4611686018427387904 = 0 by omega, Int.zero_mul, Int.zero_ediv]
      omega
  rw [f3] at i5
  clear f3
  generalize mdv a b b = x4 at *
  generalize mdv (muF a b) 1 b = x7 at *
  generalize muF a b = x6 at *
  generalize sbF (adF a b) b = x2 at *
  generalize sbF (adF a b) a = x3 at *
  generalize adF a b = x1 at *
  refine PCall_intro (c := Try.f8.body.getD .skip) Try.func8 rfl (by decide +kernel) (by simp [Fz.int_iff, Fz.bool_iff, Fz.agg_iff, Fz.str_iff]) (W_start ?_)
  simp only [Try.f8, go_sem, Nat.reduceAdd, Nat.reduceSub]
  repeat' first
    | with_reducible refine W_seq ?_
    | with_reducible refine W_block ?_
    | with_reducible refine W_skip ?_
    | with_reducible refine N_code ?_
    | with_reducible refine N_blk ?_
    | with_reducible refine W_exit ?_
    | with_reducible refine E_blk ?_
    | with_reducible refine E_code ?_
    | with_reducible refine E_blk_ne (by decide) ?_
    | with_reducible refine W_ret ?_
    | with_reducible refine R_code ?_
    | with_reducible refine R_blk ?_
    | with_reducible refine R_nil ?_
    | with_reducible refine L_exit ?_
    | with_reducible refine L_ret ?_
    | with_reducible refine F_ret ?_
    | with_reducible refine F_out (by decide) ?_
    | ((with_reducible apply W_condE); (case hb => exact rfl); (case e1 => simp only [putT, List.set_cons_succ, List.set_cons_zero]; exact rfl); (case e2 => simp only [putT, List.set_cons_succ, List.set_cons_zero]; exact rfl); all_goals (intro hb; first | (exfalso; revert hb; simp; done) | (exfalso; simp at hb; omega) | simp only [beq_iff_eq, beq_eq_false_iff_ne, bne_iff_ne, bne_eq_false_iff_eq, ne_eq, decide_eq_true_eq, decide_eq_false_iff_not, Int.not_lt, Int.not_le] at hb | skip))
    | (with_reducible refine W_reg fun K hK => ?_)
    | (with_reducible refine W_drw mixed (by decide +kernel) fun K hK => ?_)
    | ((with_reducible refine AO_nil (hK _ ?_)); clear hK K)
    | ((with_reducible apply AO_stepE); (case hg => first | exact guardA_none rfl | exact guardA_yes rfl rfl rfl (by with_reducible rfl)); (case hs => simp (maxSteps := 2000000) only [go_sem, true_implies, false_implies, implies_true, reduceCtorEq, and_true, true_and, Nat.reduceAdd, Nat.reduceSub, Nat.reduceMul, Nat.reduceLT, Nat.reduceLeDiff, Nat.reduceEqDiff, Nat.reduceBEq, if_true, if_false, ite_true, ite_false, reduceIte, Bool.false_eq_true, Bool.true_eq_false, Bool.not_true, Bool.not_false, beq_self_eq_true, decide_true, decide_false, Int.reduceNeg, Int.reduceLT, Int.reduceLE, Int.reduceEq, Int.reduceToNat, Int.reducePow, Nat.reducePow, Nat.min_eq_left, Nat.min_eq_right, Int.reduceMul, Int.reduceAdd, Int.reduceSub, Int.reduceBEq, Int.reduceBNe, bne_self_eq_false, beq_true, beq_false]; exact rfl); (case ht => simp only [putT, List.set_cons_succ, List.set_cons_zero]; exact rfl); (case hn => first | (simp only [Nat.reduceAdd]; exact rfl) | exact rfl))
    | ((with_reducible apply AO_skipE); (case hg => first | exact guardA_gone rfl rfl rfl | exact guardA_noT rfl rfl rfl (by with_reducible rfl) | exact guardA_noF rfl rfl rfl (by with_reducible rfl)); (case ht => simp only [putT, List.set_cons_succ, List.set_cons_zero]; exact rfl); (case hn => first | (simp only [Nat.reduceAdd]; exact rfl) | exact rfl))
    | ((with_reducible apply D_end); (case hi => exact rfl); (case hind => first | exact indepB_old hnx (by omega) (by kernel_rfl) (by kernel_rfl) | kernel_rfl); (case hn => first | (simp only [Nat.reduceAdd]; exact rfl) | exact rfl); (with_reducible refine hK _ ?_); clear hK K)
    | ((with_reducible apply D_stepE); (case hg => first | exact guardA_none rfl | exact guardA_yes rfl rfl rfl (by with_reducible rfl)); (case hs => simp (maxSteps := 2000000) only [go_sem, true_implies, false_implies, implies_true, reduceCtorEq, and_true, true_and, Nat.reduceAdd, Nat.reduceSub, Nat.reduceMul, Nat.reduceLT, Nat.reduceLeDiff, Nat.reduceEqDiff, Nat.reduceBEq, if_true, if_false, ite_true, ite_false, reduceIte, Bool.false_eq_true, Bool.true_eq_false, Bool.not_true, Bool.not_false, beq_self_eq_true, decide_true, decide_false, Int.reduceNeg, Int.reduceLT, Int.reduceLE, Int.reduceEq, Int.reduceToNat, Int.reducePow, Nat.reducePow, Nat.min_eq_left, Nat.min_eq_right, Int.reduceMul, Int.reduceAdd, Int.reduceSub, Int.reduceBEq, Int.reduceBNe, bne_self_eq_false, beq_true, beq_false]; exact rfl); (case ht => simp only [putT, List.set_cons_succ, List.set_cons_zero]; exact rfl); (case hn => first | (simp only [Nat.reduceAdd]; exact rfl) | exact rfl); (case hc => exact rfl))
    | ((with_reducible apply D_skipE); (case hg => first | exact guardA_gone rfl rfl rfl | exact guardA_noT rfl rfl rfl (by with_reducible rfl) | exact guardA_noF rfl rfl rfl (by with_reducible rfl)); (case ht => simp only [putT, List.set_cons_succ, List.set_cons_zero]; exact rfl); (case hn => first | (simp only [Nat.reduceAdd]; exact rfl) | exact rfl); (case hc => exact rfl))
    | ((with_reducible apply AO_callE); (case hg => first | exact guardA_none rfl | exact guardA_yes rfl rfl rfl (by with_reducible rfl)); (case ho => exact rfl); (case ht => exact rfl); (case hp' => first | exact awake_ok | exact i1 | exact i2 | exact i3 | exact i4 | exact i5 | exact i6 | exact i7); (case htm => simp only [putT, List.set_cons_succ, List.set_cons_zero]; exact rfl); (case hn => first | (simp only [Nat.reduceAdd]; exact rfl) | exact rfl))
    | ((with_reducible apply D_callE); (case hg => first | exact guardA_none rfl | exact guardA_yes rfl rfl rfl (by with_reducible rfl)); (case ho => exact rfl); (case ht => exact rfl); (case hp' => first | exact awake_ok | exact i1 | exact i2 | exact i3 | exact i4 | exact i5 | exact i6 | exact i7); (case htm => simp only [putT, List.set_cons_succ, List.set_cons_zero]; exact rfl); (case hn => first | (simp only [Nat.reduceAdd]; exact rfl) | exact rfl); (case hc => exact rfl))
    | ((fail_if_success ((with_reducible apply AO_stepE); (case hg => first | exact guardA_none rfl | exact guardA_yes rfl rfl rfl (by with_reducible rfl)))); (fail_if_success ((with_reducible apply AO_skipE); (case hg => first | exact guardA_gone rfl rfl rfl | exact guardA_noT rfl rfl rfl (by with_reducible rfl) | exact guardA_noF rfl rfl rfl (by with_reducible rfl)))); (with_reducible apply AO_split); (case hg => exact rfl); (case hd => exact rfl); (case hb => exact rfl); (case e1 => simp only [putT, List.set_cons_succ, List.set_cons_zero]; exact rfl); (case e2 => simp only [putT, List.set_cons_succ, List.set_cons_zero]; exact rfl); all_goals intro hg)
    | ((fail_if_success ((with_reducible apply D_stepE); (case hg => first | exact guardA_none rfl | exact guardA_yes rfl rfl rfl (by with_reducible rfl)))); (fail_if_success ((with_reducible apply D_skipE); (case hg => first | exact guardA_gone rfl rfl rfl | exact guardA_noT rfl rfl rfl (by with_reducible rfl) | exact guardA_noF rfl rfl rfl (by with_reducible rfl)))); (with_reducible apply D_split); (case hg => exact rfl); (case hd => exact rfl); (case hb => exact rfl); (case e1 => simp only [putT, List.set_cons_succ, List.set_cons_zero]; exact rfl); (case e2 => simp only [putT, List.set_cons_succ, List.set_cons_zero]; exact rfl); all_goals intro hg)
  all_goals refine retQ_bool rfl ?_
  all_goals first
    | rfl
    | (simp only [decide_eq_true_eq, decide_eq_false_iff_not, bne_iff_ne, bne_eq_false_iff_eq, beq_iff_eq, beq_eq_false_iff_ne, ne_eq] at *; exfalso; omega)
    | (simp only [decide_eq_true_eq, decide_eq_false_iff_not, bne_iff_ne, bne_eq_false_iff_eq, beq_iff_eq, beq_eq_false_iff_ne, ne_eq] at *; congr 1; simp; omega)

end Go.Proofs.Ytjidlifijngcpaa
