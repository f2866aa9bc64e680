/-
  The functions of layer 1, walked.
-/
import Derived.Test.YtjidlifijngcpaaTab
import Derived.KernelRfl
import Derived.Lib.Mul64
import Derived.Laws.Bits64b
namespace Go.Proofs.Ytjidlifijngcpaa
open Go Go.AM
set_option maxHeartbeats 1000000
set_option linter.unusedSimpArgs false
attribute [local go_sem] ty3 ty4 ty22 ty39 ty43 eg39 si39 ty28 eg28

theorem in_ok (a : Int) : PCall Try.prog 20 [.int .u64 a] (· = .int .u64 (min a 4611686018427387904)) := by
  refine PCall_intro (c := Try.f20.body.getD .skip) Try.func20 rfl (by decide +kernel) (by simp [Fz.int_iff, Fz.bool_iff, Fz.agg_iff, Fz.str_iff]) (W_start ?_)
  simp only [Try.f20, go_sem, Nat.reduceAdd, Nat.reduceSub]
  repeat' first
    | with_reducible refine W_seq ?_
    | with_reducible refine W_block ?_
    | with_reducible refine W_skip ?_
    | with_reducible refine N_code ?_
    | with_reducible refine N_blk ?_
    | with_reducible refine W_exit ?_
    | with_reducible refine E_blk ?_
    | with_reducible refine E_code ?_
    | with_reducible refine E_blk_ne (by decide) ?_
    | with_reducible refine W_ret ?_
    | with_reducible refine R_code ?_
    | with_reducible refine R_blk ?_
    | with_reducible refine R_nil ?_
    | with_reducible refine L_exit ?_
    | with_reducible refine L_ret ?_
    | ((with_reducible apply W_condE); (case hb => exact rfl); (case e1 => simp only [putT, List.set_cons_succ, List.set_cons_zero]; exact rfl); (case e2 => simp only [putT, List.set_cons_succ, List.set_cons_zero]; exact rfl); all_goals (intro hb; first | (exfalso; revert hb; simp; done) | (exfalso; simp at hb; omega) | simp only [beq_iff_eq, beq_eq_false_iff_ne, bne_iff_ne, bne_eq_false_iff_eq, ne_eq, decide_eq_true_eq, decide_eq_false_iff_not, Int.not_lt, Int.not_le] at hb | skip))
    | (with_reducible refine W_reg fun K hK => ?_)
    | (with_reducible refine W_drw mixed (by decide +kernel) fun K hK => ?_)
    | ((with_reducible refine AO_nil (hK _ ?_)); clear hK K)
    | ((with_reducible apply AO_stepE); (case hg => first | exact guardA_none rfl | exact guardA_yes rfl rfl rfl (by with_reducible rfl)); (case hs => simp (maxSteps := 2000000) only [go_sem, true_implies, false_implies, implies_true, reduceCtorEq, and_true, true_and, Nat.reduceAdd, Nat.reduceSub, Nat.reduceMul, Nat.reduceLT, Nat.reduceLeDiff, Nat.reduceEqDiff, Nat.reduceBEq, if_true, if_false, ite_true, ite_false, reduceIte, Bool.false_eq_true, Bool.true_eq_false, Bool.not_true, Bool.not_false, beq_self_eq_true, decide_true, decide_false, Int.reduceNeg, Int.reduceLT, Int.reduceLE, Int.reduceEq, Int.reduceToNat, Int.reducePow, Nat.reducePow, Nat.min_eq_left, Nat.min_eq_right, Int.reduceMul, Int.reduceAdd, Int.reduceSub, Int.reduceBEq, Int.reduceBNe, bne_self_eq_false, beq_true, beq_false]; exact rfl); (case ht => simp only [putT, List.set_cons_succ, List.set_cons_zero]; exact rfl); (case hn => simp only [Nat.reduceAdd]; exact rfl))
    | ((with_reducible apply AO_skipE); (case hg => first | exact guardA_gone rfl rfl rfl | exact guardA_noT rfl rfl rfl (by with_reducible rfl) | exact guardA_noF rfl rfl rfl (by with_reducible rfl)); (case ht => simp only [putT, List.set_cons_succ, List.set_cons_zero]; exact rfl); (case hn => simp only [Nat.reduceAdd]; exact rfl))
    | ((with_reducible apply D_end); (case hi => exact rfl); (case hind => kernel_rfl); (case hn => simp only [Nat.reduceAdd]; exact rfl); (with_reducible refine hK _ ?_); clear hK K)
    | ((with_reducible apply D_stepE); (case hg => first | exact guardA_none rfl | exact guardA_yes rfl rfl rfl (by with_reducible rfl)); (case hs => simp (maxSteps := 2000000) only [go_sem, true_implies, false_implies, implies_true, reduceCtorEq, and_true, true_and, Nat.reduceAdd, Nat.reduceSub, Nat.reduceMul, Nat.reduceLT, Nat.reduceLeDiff, Nat.reduceEqDiff, Nat.reduceBEq, if_true, if_false, ite_true, ite_false, reduceIte, Bool.false_eq_true, Bool.true_eq_false, Bool.not_true, Bool.not_false, beq_self_eq_true, decide_true, decide_false, Int.reduceNeg, Int.reduceLT, Int.reduceLE, Int.reduceEq, Int.reduceToNat, Int.reducePow, Nat.reducePow, Nat.min_eq_left, Nat.min_eq_right, Int.reduceMul, Int.reduceAdd, Int.reduceSub, Int.reduceBEq, Int.reduceBNe, bne_self_eq_false, beq_true, beq_false]; exact rfl); (case ht => simp only [putT, List.set_cons_succ, List.set_cons_zero]; exact rfl); (case hn => simp only [Nat.reduceAdd]; exact rfl); (case hc => exact rfl))
    | ((with_reducible apply D_skipE); (case hg => first | exact guardA_gone rfl rfl rfl | exact guardA_noT rfl rfl rfl (by with_reducible rfl) | exact guardA_noF rfl rfl rfl (by with_reducible rfl)); (case ht => simp only [putT, List.set_cons_succ, List.set_cons_zero]; exact rfl); (case hn => simp only [Nat.reduceAdd]; exact rfl); (case hc => exact rfl))
    | ((fail_if_success ((with_reducible apply AO_stepE); (case hg => first | exact guardA_none rfl | exact guardA_yes rfl rfl rfl (by with_reducible rfl)))); (fail_if_success ((with_reducible apply AO_skipE); (case hg => first | exact guardA_gone rfl rfl rfl | exact guardA_noT rfl rfl rfl (by with_reducible rfl) | exact guardA_noF rfl rfl rfl (by with_reducible rfl)))); (with_reducible apply AO_split); (case hg => exact rfl); (case hd => exact rfl); (case hb => exact rfl); (case e1 => simp only [putT, List.set_cons_succ, List.set_cons_zero]; exact rfl); (case e2 => simp only [putT, List.set_cons_succ, List.set_cons_zero]; exact rfl); all_goals intro hg)
    | ((fail_if_success ((with_reducible apply D_stepE); (case hg => first | exact guardA_none rfl | exact guardA_yes rfl rfl rfl (by with_reducible rfl)))); (fail_if_success ((with_reducible apply D_skipE); (case hg => first | exact guardA_gone rfl rfl rfl | exact guardA_noT rfl rfl rfl (by with_reducible rfl) | exact guardA_noF rfl rfl rfl (by with_reducible rfl)))); (with_reducible apply D_split); (case hg => exact rfl); (case hd => exact rfl); (case hb => exact rfl); (case e1 => simp only [putT, List.set_cons_succ, List.set_cons_zero]; exact rfl); (case e2 => simp only [putT, List.set_cons_succ, List.set_cons_zero]; exact rfl); all_goals intro hg)
  exact retQ_int rfl rfl

theorem wrap_id {x : Int} (h0 : 0 ≤ x) (h1 : x < 18446744073709551616) : IntKind.u64.wrap x = x := by
  rw [IntKind.wrap_u64]; omega

theorem add_ok (a b : Int) (ha : 0 ≤ a) (hb0 : 0 ≤ b) : PCall Try.prog 10 [.int .u64 a, .int .u64 b] (· = .int .u64 (min (min a 4611686018427387904 + min b 4611686018427387904) 4611686018427387904)) := by
  refine PCall_intro (c := Try.f10.body.getD .skip) Try.func10 rfl (by decide +kernel) (by simp [Fz.int_iff, Fz.bool_iff, Fz.agg_iff, Fz.str_iff]) (W_start ?_)
  simp only [Try.f10, go_sem, Nat.reduceAdd, Nat.reduceSub]
  repeat' first
    | with_reducible refine W_seq ?_
    | with_reducible refine W_block ?_
    | with_reducible refine W_skip ?_
    | with_reducible refine N_code ?_
    | with_reducible refine N_blk ?_
    | with_reducible refine W_exit ?_
    | with_reducible refine E_blk ?_
    | with_reducible refine E_code ?_
    | with_reducible refine E_blk_ne (by decide) ?_
    | with_reducible refine W_ret ?_
    | with_reducible refine R_code ?_
    | with_reducible refine R_blk ?_
    | with_reducible refine R_nil ?_
    | with_reducible refine L_exit ?_
    | with_reducible refine L_ret ?_
    | ((with_reducible apply W_condE); (case hb => exact rfl); (case e1 => simp only [putT, List.set_cons_succ, List.set_cons_zero]; exact rfl); (case e2 => simp only [putT, List.set_cons_succ, List.set_cons_zero]; exact rfl); all_goals (intro hb; first | (exfalso; revert hb; simp; done) | (exfalso; simp at hb; omega) | simp only [beq_iff_eq, beq_eq_false_iff_ne, bne_iff_ne, bne_eq_false_iff_eq, ne_eq, decide_eq_true_eq, decide_eq_false_iff_not, Int.not_lt, Int.not_le] at hb | skip))
    | (with_reducible refine W_reg fun K hK => ?_)
    | (with_reducible refine W_drw mixed (by decide +kernel) fun K hK => ?_)
    | ((with_reducible refine AO_nil (hK _ ?_)); clear hK K)
    | ((with_reducible apply AO_stepE); (case hg => first | exact guardA_none rfl | exact guardA_yes rfl rfl rfl (by with_reducible rfl)); (case hs => simp (maxSteps := 2000000) only [go_sem, true_implies, false_implies, implies_true, reduceCtorEq, and_true, true_and, Nat.reduceAdd, Nat.reduceSub, Nat.reduceMul, Nat.reduceLT, Nat.reduceLeDiff, Nat.reduceEqDiff, Nat.reduceBEq, if_true, if_false, ite_true, ite_false, reduceIte, Bool.false_eq_true, Bool.true_eq_false, Bool.not_true, Bool.not_false, beq_self_eq_true, decide_true, decide_false, Int.reduceNeg, Int.reduceLT, Int.reduceLE, Int.reduceEq, Int.reduceToNat, Int.reducePow, Nat.reducePow, Nat.min_eq_left, Nat.min_eq_right, Int.reduceMul, Int.reduceAdd, Int.reduceSub, Int.reduceBEq, Int.reduceBNe, bne_self_eq_false, beq_true, beq_false]; exact rfl); (case ht => simp only [putT, List.set_cons_succ, List.set_cons_zero]; exact rfl); (case hn => simp only [Nat.reduceAdd]; exact rfl))
    | ((with_reducible apply AO_skipE); (case hg => first | exact guardA_gone rfl rfl rfl | exact guardA_noT rfl rfl rfl (by with_reducible rfl) | exact guardA_noF rfl rfl rfl (by with_reducible rfl)); (case ht => simp only [putT, List.set_cons_succ, List.set_cons_zero]; exact rfl); (case hn => simp only [Nat.reduceAdd]; exact rfl))
    | ((with_reducible apply D_end); (case hi => exact rfl); (case hind => kernel_rfl); (case hn => simp only [Nat.reduceAdd]; exact rfl); (with_reducible refine hK _ ?_); clear hK K)
    | ((with_reducible apply D_stepE); (case hg => first | exact guardA_none rfl | exact guardA_yes rfl rfl rfl (by with_reducible rfl)); (case hs => simp (maxSteps := 2000000) only [go_sem, true_implies, false_implies, implies_true, reduceCtorEq, and_true, true_and, Nat.reduceAdd, Nat.reduceSub, Nat.reduceMul, Nat.reduceLT, Nat.reduceLeDiff, Nat.reduceEqDiff, Nat.reduceBEq, if_true, if_false, ite_true, ite_false, reduceIte, Bool.false_eq_true, Bool.true_eq_false, Bool.not_true, Bool.not_false, beq_self_eq_true, decide_true, decide_false, Int.reduceNeg, Int.reduceLT, Int.reduceLE, Int.reduceEq, Int.reduceToNat, Int.reducePow, Nat.reducePow, Nat.min_eq_left, Nat.min_eq_right, Int.reduceMul, Int.reduceAdd, Int.reduceSub, Int.reduceBEq, Int.reduceBNe, bne_self_eq_false, beq_true, beq_false]; exact rfl); (case ht => simp only [putT, List.set_cons_succ, List.set_cons_zero]; exact rfl); (case hn => simp only [Nat.reduceAdd]; exact rfl); (case hc => exact rfl))
    | ((with_reducible apply D_skipE); (case hg => first | exact guardA_gone rfl rfl rfl | exact guardA_noT rfl rfl rfl (by with_reducible rfl) | exact guardA_noF rfl rfl rfl (by with_reducible rfl)); (case ht => simp only [putT, List.set_cons_succ, List.set_cons_zero]; exact rfl); (case hn => simp only [Nat.reduceAdd]; exact rfl); (case hc => exact rfl))
    | ((with_reducible apply AO_callE); (case hg => first | exact guardA_none rfl | exact guardA_yes rfl rfl rfl (by with_reducible rfl)); (case ho => exact rfl); (case ht => exact rfl); (case hp' => first | exact in_ok _); (case htm => simp only [putT, List.set_cons_succ, List.set_cons_zero]; exact rfl); (case hn => simp only [Nat.reduceAdd]; exact rfl))
    | ((with_reducible apply D_callE); (case hg => first | exact guardA_none rfl | exact guardA_yes rfl rfl rfl (by with_reducible rfl)); (case ho => exact rfl); (case ht => exact rfl); (case hp' => first | exact in_ok _); (case htm => simp only [putT, List.set_cons_succ, List.set_cons_zero]; exact rfl); (case hn => simp only [Nat.reduceAdd]; exact rfl); (case hc => exact rfl))
    | ((fail_if_success ((with_reducible apply AO_stepE); (case hg => first | exact guardA_none rfl | exact guardA_yes rfl rfl rfl (by with_reducible rfl)))); (fail_if_success ((with_reducible apply AO_skipE); (case hg => first | exact guardA_gone rfl rfl rfl | exact guardA_noT rfl rfl rfl (by with_reducible rfl) | exact guardA_noF rfl rfl rfl (by with_reducible rfl)))); (with_reducible apply AO_split); (case hg => exact rfl); (case hd => exact rfl); (case hb => exact rfl); (case e1 => simp only [putT, List.set_cons_succ, List.set_cons_zero]; exact rfl); (case e2 => simp only [putT, List.set_cons_succ, List.set_cons_zero]; exact rfl); all_goals intro hg)
    | ((fail_if_success ((with_reducible apply D_stepE); (case hg => first | exact guardA_none rfl | exact guardA_yes rfl rfl rfl (by with_reducible rfl)))); (fail_if_success ((with_reducible apply D_skipE); (case hg => first | exact guardA_gone rfl rfl rfl | exact guardA_noT rfl rfl rfl (by with_reducible rfl) | exact guardA_noF rfl rfl rfl (by with_reducible rfl)))); (with_reducible apply D_split); (case hg => exact rfl); (case hd => exact rfl); (case hb => exact rfl); (case e1 => simp only [putT, List.set_cons_succ, List.set_cons_zero]; exact rfl); (case e2 => simp only [putT, List.set_cons_succ, List.set_cons_zero]; exact rfl); all_goals intro hg)
  refine retQ_int rfl ?_
  rw [wrap_id (by omega) (by omega)]

theorem over_ok (a : Int) : PCall Try.prog 22 [.int .u64 a] (· = .int .i64 (if a = 0 then 1 else 0)) := by
  refine PCall_intro (c := Try.f22.body.getD .skip) Try.func22 rfl (by decide +kernel) (by simp [Fz.int_iff, Fz.bool_iff, Fz.agg_iff, Fz.str_iff]) (W_start ?_)
  simp only [Try.f22, go_sem, Nat.reduceAdd, Nat.reduceSub]
  repeat' first
    | with_reducible refine W_seq ?_
    | with_reducible refine W_block ?_
    | with_reducible refine W_skip ?_
    | with_reducible refine N_code ?_
    | with_reducible refine N_blk ?_
    | with_reducible refine W_exit ?_
    | with_reducible refine E_blk ?_
    | with_reducible refine E_code ?_
    | with_reducible refine E_blk_ne (by decide) ?_
    | with_reducible refine W_ret ?_
    | with_reducible refine R_code ?_
    | with_reducible refine R_blk ?_
    | with_reducible refine R_nil ?_
    | with_reducible refine L_exit ?_
    | with_reducible refine L_ret ?_
    | ((with_reducible apply W_condE); (case hb => exact rfl); (case e1 => simp only [putT, List.set_cons_succ, List.set_cons_zero]; exact rfl); (case e2 => simp only [putT, List.set_cons_succ, List.set_cons_zero]; exact rfl); all_goals (intro hb; first | (exfalso; revert hb; simp; done) | (exfalso; simp at hb; omega) | simp only [beq_iff_eq, beq_eq_false_iff_ne, bne_iff_ne, bne_eq_false_iff_eq, ne_eq, decide_eq_true_eq, decide_eq_false_iff_not, Int.not_lt, Int.not_le] at hb | skip))
    | (with_reducible refine W_reg fun K hK => ?_)
    | (with_reducible refine W_drw mixed (by decide +kernel) fun K hK => ?_)
    | ((with_reducible refine AO_nil (hK _ ?_)); clear hK K)
    | ((with_reducible apply AO_stepE); (case hg => first | exact guardA_none rfl | exact guardA_yes rfl rfl rfl (by with_reducible rfl)); (case hs => simp (maxSteps := 2000000) only [go_sem, true_implies, false_implies, implies_true, reduceCtorEq, and_true, true_and, Nat.reduceAdd, Nat.reduceSub, Nat.reduceMul, Nat.reduceLT, Nat.reduceLeDiff, Nat.reduceEqDiff, Nat.reduceBEq, if_true, if_false, ite_true, ite_false, reduceIte, Bool.false_eq_true, Bool.true_eq_false, Bool.not_true, Bool.not_false, beq_self_eq_true, decide_true, decide_false, Int.reduceNeg, Int.reduceLT, Int.reduceLE, Int.reduceEq, Int.reduceToNat, Int.reducePow, Nat.reducePow, Nat.min_eq_left, Nat.min_eq_right, Int.reduceMul, Int.reduceAdd, Int.reduceSub, Int.reduceBEq, Int.reduceBNe, bne_self_eq_false, beq_true, beq_false]; exact rfl); (case ht => simp only [putT, List.set_cons_succ, List.set_cons_zero]; exact rfl); (case hn => simp only [Nat.reduceAdd]; exact rfl))
    | ((with_reducible apply AO_skipE); (case hg => first | exact guardA_gone rfl rfl rfl | exact guardA_noT rfl rfl rfl (by with_reducible rfl) | exact guardA_noF rfl rfl rfl (by with_reducible rfl)); (case ht => simp only [putT, List.set_cons_succ, List.set_cons_zero]; exact rfl); (case hn => simp only [Nat.reduceAdd]; exact rfl))
    | ((with_reducible apply D_end); (case hi => exact rfl); (case hind => kernel_rfl); (case hn => simp only [Nat.reduceAdd]; exact rfl); (with_reducible refine hK _ ?_); clear hK K)
    | ((with_reducible apply D_stepE); (case hg => first | exact guardA_none rfl | exact guardA_yes rfl rfl rfl (by with_reducible rfl)); (case hs => simp (maxSteps := 2000000) only [go_sem, true_implies, false_implies, implies_true, reduceCtorEq, and_true, true_and, Nat.reduceAdd, Nat.reduceSub, Nat.reduceMul, Nat.reduceLT, Nat.reduceLeDiff, Nat.reduceEqDiff, Nat.reduceBEq, if_true, if_false, ite_true, ite_false, reduceIte, Bool.false_eq_true, Bool.true_eq_false, Bool.not_true, Bool.not_false, beq_self_eq_true, decide_true, decide_false, Int.reduceNeg, Int.reduceLT, Int.reduceLE, Int.reduceEq, Int.reduceToNat, Int.reducePow, Nat.reducePow, Nat.min_eq_left, Nat.min_eq_right, Int.reduceMul, Int.reduceAdd, Int.reduceSub, Int.reduceBEq, Int.reduceBNe, bne_self_eq_false, beq_true, beq_false]; exact rfl); (case ht => simp only [putT, List.set_cons_succ, List.set_cons_zero]; exact rfl); (case hn => simp only [Nat.reduceAdd]; exact rfl); (case hc => exact rfl))
    | ((with_reducible apply D_skipE); (case hg => first | exact guardA_gone rfl rfl rfl | exact guardA_noT rfl rfl rfl (by with_reducible rfl) | exact guardA_noF rfl rfl rfl (by with_reducible rfl)); (case ht => simp only [putT, List.set_cons_succ, List.set_cons_zero]; exact rfl); (case hn => simp only [Nat.reduceAdd]; exact rfl); (case hc => exact rfl))
    | ((fail_if_success ((with_reducible apply AO_stepE); (case hg => first | exact guardA_none rfl | exact guardA_yes rfl rfl rfl (by with_reducible rfl)))); (fail_if_success ((with_reducible apply AO_skipE); (case hg => first | exact guardA_gone rfl rfl rfl | exact guardA_noT rfl rfl rfl (by with_reducible rfl) | exact guardA_noF rfl rfl rfl (by with_reducible rfl)))); (with_reducible apply AO_split); (case hg => exact rfl); (case hd => exact rfl); (case hb => exact rfl); (case e1 => simp only [putT, List.set_cons_succ, List.set_cons_zero]; exact rfl); (case e2 => simp only [putT, List.set_cons_succ, List.set_cons_zero]; exact rfl); all_goals intro hg)
    | ((fail_if_success ((with_reducible apply D_stepE); (case hg => first | exact guardA_none rfl | exact guardA_yes rfl rfl rfl (by with_reducible rfl)))); (fail_if_success ((with_reducible apply D_skipE); (case hg => first | exact guardA_gone rfl rfl rfl | exact guardA_noT rfl rfl rfl (by with_reducible rfl) | exact guardA_noF rfl rfl rfl (by with_reducible rfl)))); (with_reducible apply D_split); (case hg => exact rfl); (case hd => exact rfl); (case hb => exact rfl); (case e1 => simp only [putT, List.set_cons_succ, List.set_cons_zero]; exact rfl); (case e2 => simp only [putT, List.set_cons_succ, List.set_cons_zero]; exact rfl); all_goals intro hg)
  all_goals (refine retQ_int rfl ?_; simp [*])

theorem sign_ok (a : Bool) : PCall Try.prog 24 [.bool a] (· = .int .i64 (if a = true then 1 else -1)) := by
  refine PCall_intro (c := Try.f24.body.getD .skip) Try.func24 rfl (by decide +kernel) (by simp [Fz.int_iff, Fz.bool_iff, Fz.agg_iff, Fz.str_iff]) (W_start ?_)
  simp only [Try.f24, go_sem, Nat.reduceAdd, Nat.reduceSub]
  repeat' first
    | with_reducible refine W_seq ?_
    | with_reducible refine W_block ?_
    | with_reducible refine W_skip ?_
    | with_reducible refine N_code ?_
    | with_reducible refine N_blk ?_
    | with_reducible refine W_exit ?_
    | with_reducible refine E_blk ?_
    | with_reducible refine E_code ?_
    | with_reducible refine E_blk_ne (by decide) ?_
    | with_reducible refine W_ret ?_
    | with_reducible refine R_code ?_
    | with_reducible refine R_blk ?_
    | with_reducible refine R_nil ?_
    | with_reducible refine L_exit ?_
    | with_reducible refine L_ret ?_
    | ((with_reducible apply W_condE); (case hb => exact rfl); (case e1 => simp only [putT, List.set_cons_succ, List.set_cons_zero]; exact rfl); (case e2 => simp only [putT, List.set_cons_succ, List.set_cons_zero]; exact rfl); all_goals (intro hb; first | (exfalso; revert hb; simp; done) | (exfalso; simp at hb; omega) | simp only [beq_iff_eq, beq_eq_false_iff_ne, bne_iff_ne, bne_eq_false_iff_eq, ne_eq, decide_eq_true_eq, decide_eq_false_iff_not, Int.not_lt, Int.not_le] at hb | skip))
    | (with_reducible refine W_reg fun K hK => ?_)
    | (with_reducible refine W_drw mixed (by decide +kernel) fun K hK => ?_)
    | ((with_reducible refine AO_nil (hK _ ?_)); clear hK K)
    | ((with_reducible apply AO_stepE); (case hg => first | exact guardA_none rfl | exact guardA_yes rfl rfl rfl (by with_reducible rfl)); (case hs => simp (maxSteps := 2000000) only [go_sem, true_implies, false_implies, implies_true, reduceCtorEq, and_true, true_and, Nat.reduceAdd, Nat.reduceSub, Nat.reduceMul, Nat.reduceLT, Nat.reduceLeDiff, Nat.reduceEqDiff, Nat.reduceBEq, if_true, if_false, ite_true, ite_false, reduceIte, Bool.false_eq_true, Bool.true_eq_false, Bool.not_true, Bool.not_false, beq_self_eq_true, decide_true, decide_false, Int.reduceNeg, Int.reduceLT, Int.reduceLE, Int.reduceEq, Int.reduceToNat, Int.reducePow, Nat.reducePow, Nat.min_eq_left, Nat.min_eq_right, Int.reduceMul, Int.reduceAdd, Int.reduceSub, Int.reduceBEq, Int.reduceBNe, bne_self_eq_false, beq_true, beq_false]; exact rfl); (case ht => simp only [putT, List.set_cons_succ, List.set_cons_zero]; exact rfl); (case hn => simp only [Nat.reduceAdd]; exact rfl))
    | ((with_reducible apply AO_skipE); (case hg => first | exact guardA_gone rfl rfl rfl | exact guardA_noT rfl rfl rfl (by with_reducible rfl) | exact guardA_noF rfl rfl rfl (by with_reducible rfl)); (case ht => simp only [putT, List.set_cons_succ, List.set_cons_zero]; exact rfl); (case hn => simp only [Nat.reduceAdd]; exact rfl))
    | ((with_reducible apply D_end); (case hi => exact rfl); (case hind => kernel_rfl); (case hn => simp only [Nat.reduceAdd]; exact rfl); (with_reducible refine hK _ ?_); clear hK K)
    | ((with_reducible apply D_stepE); (case hg => first | exact guardA_none rfl | exact guardA_yes rfl rfl rfl (by with_reducible rfl)); (case hs => simp (maxSteps := 2000000) only [go_sem, true_implies, false_implies, implies_true, reduceCtorEq, and_true, true_and, Nat.reduceAdd, Nat.reduceSub, Nat.reduceMul, Nat.reduceLT, Nat.reduceLeDiff, Nat.reduceEqDiff, Nat.reduceBEq, if_true, if_false, ite_true, ite_false, reduceIte, Bool.false_eq_true, Bool.true_eq_false, Bool.not_true, Bool.not_false, beq_self_eq_true, decide_true, decide_false, Int.reduceNeg, Int.reduceLT, Int.reduceLE, Int.reduceEq, Int.reduceToNat, Int.reducePow, Nat.reducePow, Nat.min_eq_left, Nat.min_eq_right, Int.reduceMul, Int.reduceAdd, Int.reduceSub, Int.reduceBEq, Int.reduceBNe, bne_self_eq_false, beq_true, beq_false]; exact rfl); (case ht => simp only [putT, List.set_cons_succ, List.set_cons_zero]; exact rfl); (case hn => simp only [Nat.reduceAdd]; exact rfl); (case hc => exact rfl))
    | ((with_reducible apply D_skipE); (case hg => first | exact guardA_gone rfl rfl rfl | exact guardA_noT rfl rfl rfl (by with_reducible rfl) | exact guardA_noF rfl rfl rfl (by with_reducible rfl)); (case ht => simp only [putT, List.set_cons_succ, List.set_cons_zero]; exact rfl); (case hn => simp only [Nat.reduceAdd]; exact rfl); (case hc => exact rfl))
    | ((fail_if_success ((with_reducible apply AO_stepE); (case hg => first | exact guardA_none rfl | exact guardA_yes rfl rfl rfl (by with_reducible rfl)))); (fail_if_success ((with_reducible apply AO_skipE); (case hg => first | exact guardA_gone rfl rfl rfl | exact guardA_noT rfl rfl rfl (by with_reducible rfl) | exact guardA_noF rfl rfl rfl (by with_reducible rfl)))); (with_reducible apply AO_split); (case hg => exact rfl); (case hd => exact rfl); (case hb => exact rfl); (case e1 => simp only [putT, List.set_cons_succ, List.set_cons_zero]; exact rfl); (case e2 => simp only [putT, List.set_cons_succ, List.set_cons_zero]; exact rfl); all_goals intro hg)
    | ((fail_if_success ((with_reducible apply D_stepE); (case hg => first | exact guardA_none rfl | exact guardA_yes rfl rfl rfl (by with_reducible rfl)))); (fail_if_success ((with_reducible apply D_skipE); (case hg => first | exact guardA_gone rfl rfl rfl | exact guardA_noT rfl rfl rfl (by with_reducible rfl) | exact guardA_noF rfl rfl rfl (by with_reducible rfl)))); (with_reducible apply D_split); (case hg => exact rfl); (case hd => exact rfl); (case hb => exact rfl); (case e1 => simp only [putT, List.set_cons_succ, List.set_cons_zero]; exact rfl); (case e2 => simp only [putT, List.set_cons_succ, List.set_cons_zero]; exact rfl); all_goals intro hg)
  all_goals (refine retQ_int rfl ?_; simp [*])

theorem sub_ok (a b : Int) (ha : 0 ≤ a) (hb0 : 0 ≤ b) : PCall Try.prog 12 [.int .u64 a, .int .u64 b] (· = .int .u64 (max 0 (min a 4611686018427387904 - min b 4611686018427387904))) := by
  refine PCall_intro (c := Try.f12.body.getD .skip) Try.func12 rfl (by decide +kernel) (by simp [Fz.int_iff, Fz.bool_iff, Fz.agg_iff, Fz.str_iff]) (W_start ?_)
  simp only [Try.f12, go_sem, Nat.reduceAdd, Nat.reduceSub]
  repeat' first
    | with_reducible refine W_seq ?_
    | with_reducible refine W_block ?_
    | with_reducible refine W_skip ?_
    | with_reducible refine N_code ?_
    | with_reducible refine N_blk ?_
    | with_reducible refine W_exit ?_
    | with_reducible refine E_blk ?_
    | with_reducible refine E_code ?_
    | with_reducible refine E_blk_ne (by decide) ?_
    | with_reducible refine W_ret ?_
    | with_reducible refine R_code ?_
    | with_reducible refine R_blk ?_
    | with_reducible refine R_nil ?_
    | with_reducible refine L_exit ?_
    | with_reducible refine L_ret ?_
    | ((with_reducible apply W_condE); (case hb => exact rfl); (case e1 => simp only [putT, List.set_cons_succ, List.set_cons_zero]; exact rfl); (case e2 => simp only [putT, List.set_cons_succ, List.set_cons_zero]; exact rfl); all_goals (intro hb; first | (exfalso; revert hb; simp; done) | (exfalso; simp at hb; omega) | simp only [beq_iff_eq, beq_eq_false_iff_ne, bne_iff_ne, bne_eq_false_iff_eq, ne_eq, decide_eq_true_eq, decide_eq_false_iff_not, Int.not_lt, Int.not_le] at hb | skip))
    | (with_reducible refine W_reg fun K hK => ?_)
    | (with_reducible refine W_drw mixed (by decide +kernel) fun K hK => ?_)
    | ((with_reducible refine AO_nil (hK _ ?_)); clear hK K)
    | ((with_reducible apply AO_stepE); (case hg => first | exact guardA_none rfl | exact guardA_yes rfl rfl rfl (by with_reducible rfl)); (case hs => simp (maxSteps := 2000000) only [go_sem, true_implies, false_implies, implies_true, reduceCtorEq, and_true, true_and, Nat.reduceAdd, Nat.reduceSub, Nat.reduceMul, Nat.reduceLT, Nat.reduceLeDiff, Nat.reduceEqDiff, Nat.reduceBEq, if_true, if_false, ite_true, ite_false, reduceIte, Bool.false_eq_true, Bool.true_eq_false, Bool.not_true, Bool.not_false, beq_self_eq_true, decide_true, decide_false, Int.reduceNeg, Int.reduceLT, Int.reduceLE, Int.reduceEq, Int.reduceToNat, Int.reducePow, Nat.reducePow, Nat.min_eq_left, Nat.min_eq_right, Int.reduceMul, Int.reduceAdd, Int.reduceSub, Int.reduceBEq, Int.reduceBNe, bne_self_eq_false, beq_true, beq_false]; exact rfl); (case ht => simp only [putT, List.set_cons_succ, List.set_cons_zero]; exact rfl); (case hn => simp only [Nat.reduceAdd]; exact rfl))
    | ((with_reducible apply AO_skipE); (case hg => first | exact guardA_gone rfl rfl rfl | exact guardA_noT rfl rfl rfl (by with_reducible rfl) | exact guardA_noF rfl rfl rfl (by with_reducible rfl)); (case ht => simp only [putT, List.set_cons_succ, List.set_cons_zero]; exact rfl); (case hn => simp only [Nat.reduceAdd]; exact rfl))
    | ((with_reducible apply D_end); (case hi => exact rfl); (case hind => kernel_rfl); (case hn => simp only [Nat.reduceAdd]; exact rfl); (with_reducible refine hK _ ?_); clear hK K)
    | ((with_reducible apply D_stepE); (case hg => first | exact guardA_none rfl | exact guardA_yes rfl rfl rfl (by with_reducible rfl)); (case hs => simp (maxSteps := 2000000) only [go_sem, true_implies, false_implies, implies_true, reduceCtorEq, and_true, true_and, Nat.reduceAdd, Nat.reduceSub, Nat.reduceMul, Nat.reduceLT, Nat.reduceLeDiff, Nat.reduceEqDiff, Nat.reduceBEq, if_true, if_false, ite_true, ite_false, reduceIte, Bool.false_eq_true, Bool.true_eq_false, Bool.not_true, Bool.not_false, beq_self_eq_true, decide_true, decide_false, Int.reduceNeg, Int.reduceLT, Int.reduceLE, Int.reduceEq, Int.reduceToNat, Int.reducePow, Nat.reducePow, Nat.min_eq_left, Nat.min_eq_right, Int.reduceMul, Int.reduceAdd, Int.reduceSub, Int.reduceBEq, Int.reduceBNe, bne_self_eq_false, beq_true, beq_false]; exact rfl); (case ht => simp only [putT, List.set_cons_succ, List.set_cons_zero]; exact rfl); (case hn => simp only [Nat.reduceAdd]; exact rfl); (case hc => exact rfl))
    | ((with_reducible apply D_skipE); (case hg => first | exact guardA_gone rfl rfl rfl | exact guardA_noT rfl rfl rfl (by with_reducible rfl) | exact guardA_noF rfl rfl rfl (by with_reducible rfl)); (case ht => simp only [putT, List.set_cons_succ, List.set_cons_zero]; exact rfl); (case hn => simp only [Nat.reduceAdd]; exact rfl); (case hc => exact rfl))
    | ((with_reducible apply AO_callE); (case hg => first | exact guardA_none rfl | exact guardA_yes rfl rfl rfl (by with_reducible rfl)); (case ho => exact rfl); (case ht => exact rfl); (case hp' => first | exact in_ok _); (case htm => simp only [putT, List.set_cons_succ, List.set_cons_zero]; exact rfl); (case hn => simp only [Nat.reduceAdd]; exact rfl))
    | ((with_reducible apply D_callE); (case hg => first | exact guardA_none rfl | exact guardA_yes rfl rfl rfl (by with_reducible rfl)); (case ho => exact rfl); (case ht => exact rfl); (case hp' => first | exact in_ok _); (case htm => simp only [putT, List.set_cons_succ, List.set_cons_zero]; exact rfl); (case hn => simp only [Nat.reduceAdd]; exact rfl); (case hc => exact rfl))
    | ((fail_if_success ((with_reducible apply AO_stepE); (case hg => first | exact guardA_none rfl | exact guardA_yes rfl rfl rfl (by with_reducible rfl)))); (fail_if_success ((with_reducible apply AO_skipE); (case hg => first | exact guardA_gone rfl rfl rfl | exact guardA_noT rfl rfl rfl (by with_reducible rfl) | exact guardA_noF rfl rfl rfl (by with_reducible rfl)))); (with_reducible apply AO_split); (case hg => exact rfl); (case hd => exact rfl); (case hb => exact rfl); (case e1 => simp only [putT, List.set_cons_succ, List.set_cons_zero]; exact rfl); (case e2 => simp only [putT, List.set_cons_succ, List.set_cons_zero]; exact rfl); all_goals intro hg)
    | ((fail_if_success ((with_reducible apply D_stepE); (case hg => first | exact guardA_none rfl | exact guardA_yes rfl rfl rfl (by with_reducible rfl)))); (fail_if_success ((with_reducible apply D_skipE); (case hg => first | exact guardA_gone rfl rfl rfl | exact guardA_noT rfl rfl rfl (by with_reducible rfl) | exact guardA_noF rfl rfl rfl (by with_reducible rfl)))); (with_reducible apply D_split); (case hg => exact rfl); (case hd => exact rfl); (case hb => exact rfl); (case e1 => simp only [putT, List.set_cons_succ, List.set_cons_zero]; exact rfl); (case e2 => simp only [putT, List.set_cons_succ, List.set_cons_zero]; exact rfl); all_goals intro hg)
  all_goals (refine retQ_int rfl ?_)
  · congr 1; omega
  · congr 1; rw [wrap_id (by omega) (by omega)]; omega

theorem rin_ok (a : Int) : PCall Try.prog 21 [.int .u64 a] (· = .int .u64 (min a 4611686018427387904)) := by
  refine PCall_intro (c := Try.f21.body.getD .skip) Try.func21 rfl (by decide +kernel) (by simp [Fz.int_iff, Fz.bool_iff, Fz.agg_iff, Fz.str_iff]) (W_start ?_)
  simp only [Try.f21, go_sem, Nat.reduceAdd, Nat.reduceSub]
  repeat' first
    | with_reducible refine W_seq ?_
    | with_reducible refine W_block ?_
    | with_reducible refine W_skip ?_
    | with_reducible refine N_code ?_
    | with_reducible refine N_blk ?_
    | with_reducible refine W_exit ?_
    | with_reducible refine E_blk ?_
    | with_reducible refine E_code ?_
    | with_reducible refine E_blk_ne (by decide) ?_
    | with_reducible refine W_ret ?_
    | with_reducible refine R_code ?_
    | with_reducible refine R_blk ?_
    | with_reducible refine R_nil ?_
    | with_reducible refine L_exit ?_
    | with_reducible refine L_ret ?_
    | ((with_reducible apply W_condE); (case hb => exact rfl); (case e1 => simp only [putT, List.set_cons_succ, List.set_cons_zero]; exact rfl); (case e2 => simp only [putT, List.set_cons_succ, List.set_cons_zero]; exact rfl); all_goals (intro hb; first | (exfalso; revert hb; simp; done) | (exfalso; simp at hb; omega) | simp only [beq_iff_eq, beq_eq_false_iff_ne, bne_iff_ne, bne_eq_false_iff_eq, ne_eq, decide_eq_true_eq, decide_eq_false_iff_not, Int.not_lt, Int.not_le] at hb | skip))
    | (with_reducible refine W_reg fun K hK => ?_)
    | (with_reducible refine W_drw mixed (by decide +kernel) fun K hK => ?_)
    | ((with_reducible refine AO_nil (hK _ ?_)); clear hK K)
    | ((with_reducible apply AO_stepE); (case hg => first | exact guardA_none rfl | exact guardA_yes rfl rfl rfl (by with_reducible rfl)); (case hs => simp (maxSteps := 2000000) only [go_sem, true_implies, false_implies, implies_true, reduceCtorEq, and_true, true_and, Nat.reduceAdd, Nat.reduceSub, Nat.reduceMul, Nat.reduceLT, Nat.reduceLeDiff, Nat.reduceEqDiff, Nat.reduceBEq, if_true, if_false, ite_true, ite_false, reduceIte, Bool.false_eq_true, Bool.true_eq_false, Bool.not_true, Bool.not_false, beq_self_eq_true, decide_true, decide_false, Int.reduceNeg, Int.reduceLT, Int.reduceLE, Int.reduceEq, Int.reduceToNat, Int.reducePow, Nat.reducePow, Nat.min_eq_left, Nat.min_eq_right, Int.reduceMul, Int.reduceAdd, Int.reduceSub, Int.reduceBEq, Int.reduceBNe, bne_self_eq_false, beq_true, beq_false]; exact rfl); (case ht => simp only [putT, List.set_cons_succ, List.set_cons_zero]; exact rfl); (case hn => simp only [Nat.reduceAdd]; exact rfl))
    | ((with_reducible apply AO_skipE); (case hg => first | exact guardA_gone rfl rfl rfl | exact guardA_noT rfl rfl rfl (by with_reducible rfl) | exact guardA_noF rfl rfl rfl (by with_reducible rfl)); (case ht => simp only [putT, List.set_cons_succ, List.set_cons_zero]; exact rfl); (case hn => simp only [Nat.reduceAdd]; exact rfl))
    | ((with_reducible apply D_end); (case hi => exact rfl); (case hind => kernel_rfl); (case hn => simp only [Nat.reduceAdd]; exact rfl); (with_reducible refine hK _ ?_); clear hK K)
    | ((with_reducible apply D_stepE); (case hg => first | exact guardA_none rfl | exact guardA_yes rfl rfl rfl (by with_reducible rfl)); (case hs => simp (maxSteps := 2000000) only [go_sem, true_implies, false_implies, implies_true, reduceCtorEq, and_true, true_and, Nat.reduceAdd, Nat.reduceSub, Nat.reduceMul, Nat.reduceLT, Nat.reduceLeDiff, Nat.reduceEqDiff, Nat.reduceBEq, if_true, if_false, ite_true, ite_false, reduceIte, Bool.false_eq_true, Bool.true_eq_false, Bool.not_true, Bool.not_false, beq_self_eq_true, decide_true, decide_false, Int.reduceNeg, Int.reduceLT, Int.reduceLE, Int.reduceEq, Int.reduceToNat, Int.reducePow, Nat.reducePow, Nat.min_eq_left, Nat.min_eq_right, Int.reduceMul, Int.reduceAdd, Int.reduceSub, Int.reduceBEq, Int.reduceBNe, bne_self_eq_false, beq_true, beq_false]; exact rfl); (case ht => simp only [putT, List.set_cons_succ, List.set_cons_zero]; exact rfl); (case hn => simp only [Nat.reduceAdd]; exact rfl); (case hc => exact rfl))
    | ((with_reducible apply D_skipE); (case hg => first | exact guardA_gone rfl rfl rfl | exact guardA_noT rfl rfl rfl (by with_reducible rfl) | exact guardA_noF rfl rfl rfl (by with_reducible rfl)); (case ht => simp only [putT, List.set_cons_succ, List.set_cons_zero]; exact rfl); (case hn => simp only [Nat.reduceAdd]; exact rfl); (case hc => exact rfl))
    | ((fail_if_success ((with_reducible apply AO_stepE); (case hg => first | exact guardA_none rfl | exact guardA_yes rfl rfl rfl (by with_reducible rfl)))); (fail_if_success ((with_reducible apply AO_skipE); (case hg => first | exact guardA_gone rfl rfl rfl | exact guardA_noT rfl rfl rfl (by with_reducible rfl) | exact guardA_noF rfl rfl rfl (by with_reducible rfl)))); (with_reducible apply AO_split); (case hg => exact rfl); (case hd => exact rfl); (case hb => exact rfl); (case e1 => simp only [putT, List.set_cons_succ, List.set_cons_zero]; exact rfl); (case e2 => simp only [putT, List.set_cons_succ, List.set_cons_zero]; exact rfl); all_goals intro hg)
    | ((fail_if_success ((with_reducible apply D_stepE); (case hg => first | exact guardA_none rfl | exact guardA_yes rfl rfl rfl (by with_reducible rfl)))); (fail_if_success ((with_reducible apply D_skipE); (case hg => first | exact guardA_gone rfl rfl rfl | exact guardA_noT rfl rfl rfl (by with_reducible rfl) | exact guardA_noF rfl rfl rfl (by with_reducible rfl)))); (with_reducible apply D_split); (case hg => exact rfl); (case hd => exact rfl); (case hb => exact rfl); (case e1 => simp only [putT, List.set_cons_succ, List.set_cons_zero]; exact rfl); (case e2 => simp only [putT, List.set_cons_succ, List.set_cons_zero]; exact rfl); all_goals intro hg)
  all_goals (refine retQ_int rfl ?_; congr 1; omega)

theorem radd_ok (a b : Int) (ha : 0 ≤ a) (hb0 : 0 ≤ b) : PCall Try.prog 11 [.int .u64 a, .int .u64 b] (· = .int .u64 (min (min a 4611686018427387904 + min b 4611686018427387904) 4611686018427387904)) := by
  refine PCall_intro (c := Try.f11.body.getD .skip) Try.func11 rfl (by decide +kernel) (by simp [Fz.int_iff, Fz.bool_iff, Fz.agg_iff, Fz.str_iff]) (W_start ?_)
  simp only [Try.f11, go_sem, Nat.reduceAdd, Nat.reduceSub]
  repeat' first
    | with_reducible refine W_seq ?_
    | with_reducible refine W_block ?_
    | with_reducible refine W_skip ?_
    | with_reducible refine N_code ?_
    | with_reducible refine N_blk ?_
    | with_reducible refine W_exit ?_
    | with_reducible refine E_blk ?_
    | with_reducible refine E_code ?_
    | with_reducible refine E_blk_ne (by decide) ?_
    | with_reducible refine W_ret ?_
    | with_reducible refine R_code ?_
    | with_reducible refine R_blk ?_
    | with_reducible refine R_nil ?_
    | with_reducible refine L_exit ?_
    | with_reducible refine L_ret ?_
    | ((with_reducible apply W_condE); (case hb => exact rfl); (case e1 => simp only [putT, List.set_cons_succ, List.set_cons_zero]; exact rfl); (case e2 => simp only [putT, List.set_cons_succ, List.set_cons_zero]; exact rfl); all_goals (intro hb; first | (exfalso; revert hb; simp; done) | (exfalso; simp at hb; omega) | simp only [beq_iff_eq, beq_eq_false_iff_ne, bne_iff_ne, bne_eq_false_iff_eq, ne_eq, decide_eq_true_eq, decide_eq_false_iff_not, Int.not_lt, Int.not_le] at hb | skip))
    | (with_reducible refine W_reg fun K hK => ?_)
    | (with_reducible refine W_drw mixed (by decide +kernel) fun K hK => ?_)
    | ((with_reducible refine AO_nil (hK _ ?_)); clear hK K)
    | ((with_reducible apply AO_stepE); (case hg => first | exact guardA_none rfl | exact guardA_yes rfl rfl rfl (by with_reducible rfl)); (case hs => simp (maxSteps := 2000000) only [go_sem, true_implies, false_implies, implies_true, reduceCtorEq, and_true, true_and, Nat.reduceAdd, Nat.reduceSub, Nat.reduceMul, Nat.reduceLT, Nat.reduceLeDiff, Nat.reduceEqDiff, Nat.reduceBEq, if_true, if_false, ite_true, ite_false, reduceIte, Bool.false_eq_true, Bool.true_eq_false, Bool.not_true, Bool.not_false, beq_self_eq_true, decide_true, decide_false, Int.reduceNeg, Int.reduceLT, Int.reduceLE, Int.reduceEq, Int.reduceToNat, Int.reducePow, Nat.reducePow, Nat.min_eq_left, Nat.min_eq_right, Int.reduceMul, Int.reduceAdd, Int.reduceSub, Int.reduceBEq, Int.reduceBNe, bne_self_eq_false, beq_true, beq_false]; exact rfl); (case ht => simp only [putT, List.set_cons_succ, List.set_cons_zero]; exact rfl); (case hn => simp only [Nat.reduceAdd]; exact rfl))
    | ((with_reducible apply AO_skipE); (case hg => first | exact guardA_gone rfl rfl rfl | exact guardA_noT rfl rfl rfl (by with_reducible rfl) | exact guardA_noF rfl rfl rfl (by with_reducible rfl)); (case ht => simp only [putT, List.set_cons_succ, List.set_cons_zero]; exact rfl); (case hn => simp only [Nat.reduceAdd]; exact rfl))
    | ((with_reducible apply D_end); (case hi => exact rfl); (case hind => kernel_rfl); (case hn => simp only [Nat.reduceAdd]; exact rfl); (with_reducible refine hK _ ?_); clear hK K)
    | ((with_reducible apply D_stepE); (case hg => first | exact guardA_none rfl | exact guardA_yes rfl rfl rfl (by with_reducible rfl)); (case hs => simp (maxSteps := 2000000) only [go_sem, true_implies, false_implies, implies_true, reduceCtorEq, and_true, true_and, Nat.reduceAdd, Nat.reduceSub, Nat.reduceMul, Nat.reduceLT, Nat.reduceLeDiff, Nat.reduceEqDiff, Nat.reduceBEq, if_true, if_false, ite_true, ite_false, reduceIte, Bool.false_eq_true, Bool.true_eq_false, Bool.not_true, Bool.not_false, beq_self_eq_true, decide_true, decide_false, Int.reduceNeg, Int.reduceLT, Int.reduceLE, Int.reduceEq, Int.reduceToNat, Int.reducePow, Nat.reducePow, Nat.min_eq_left, Nat.min_eq_right, Int.reduceMul, Int.reduceAdd, Int.reduceSub, Int.reduceBEq, Int.reduceBNe, bne_self_eq_false, beq_true, beq_false]; exact rfl); (case ht => simp only [putT, List.set_cons_succ, List.set_cons_zero]; exact rfl); (case hn => simp only [Nat.reduceAdd]; exact rfl); (case hc => exact rfl))
    | ((with_reducible apply D_skipE); (case hg => first | exact guardA_gone rfl rfl rfl | exact guardA_noT rfl rfl rfl (by with_reducible rfl) | exact guardA_noF rfl rfl rfl (by with_reducible rfl)); (case ht => simp only [putT, List.set_cons_succ, List.set_cons_zero]; exact rfl); (case hn => simp only [Nat.reduceAdd]; exact rfl); (case hc => exact rfl))
    | ((with_reducible apply AO_callE); (case hg => first | exact guardA_none rfl | exact guardA_yes rfl rfl rfl (by with_reducible rfl)); (case ho => exact rfl); (case ht => exact rfl); (case hp' => first | exact rin_ok _); (case htm => simp only [putT, List.set_cons_succ, List.set_cons_zero]; exact rfl); (case hn => simp only [Nat.reduceAdd]; exact rfl))
    | ((with_reducible apply D_callE); (case hg => first | exact guardA_none rfl | exact guardA_yes rfl rfl rfl (by with_reducible rfl)); (case ho => exact rfl); (case ht => exact rfl); (case hp' => first | exact rin_ok _); (case htm => simp only [putT, List.set_cons_succ, List.set_cons_zero]; exact rfl); (case hn => simp only [Nat.reduceAdd]; exact rfl); (case hc => exact rfl))
    | ((fail_if_success ((with_reducible apply AO_stepE); (case hg => first | exact guardA_none rfl | exact guardA_yes rfl rfl rfl (by with_reducible rfl)))); (fail_if_success ((with_reducible apply AO_skipE); (case hg => first | exact guardA_gone rfl rfl rfl | exact guardA_noT rfl rfl rfl (by with_reducible rfl) | exact guardA_noF rfl rfl rfl (by with_reducible rfl)))); (with_reducible apply AO_split); (case hg => exact rfl); (case hd => exact rfl); (case hb => exact rfl); (case e1 => simp only [putT, List.set_cons_succ, List.set_cons_zero]; exact rfl); (case e2 => simp only [putT, List.set_cons_succ, List.set_cons_zero]; exact rfl); all_goals intro hg)
    | ((fail_if_success ((with_reducible apply D_stepE); (case hg => first | exact guardA_none rfl | exact guardA_yes rfl rfl rfl (by with_reducible rfl)))); (fail_if_success ((with_reducible apply D_skipE); (case hg => first | exact guardA_gone rfl rfl rfl | exact guardA_noT rfl rfl rfl (by with_reducible rfl) | exact guardA_noF rfl rfl rfl (by with_reducible rfl)))); (with_reducible apply D_split); (case hg => exact rfl); (case hd => exact rfl); (case hb => exact rfl); (case e1 => simp only [putT, List.set_cons_succ, List.set_cons_zero]; exact rfl); (case e2 => simp only [putT, List.set_cons_succ, List.set_cons_zero]; exact rfl); all_goals intro hg)
  refine retQ_int rfl ?_
  rw [wrap_id (by omega) (by omega)]

theorem rsub_ok (a b : Int) (ha : 0 ≤ a) (hb0 : 0 ≤ b) : PCall Try.prog 13 [.int .u64 a, .int .u64 b] (· = .int .u64 (max 0 (min a 4611686018427387904 - min b 4611686018427387904))) := by
  refine PCall_intro (c := Try.f13.body.getD .skip) Try.func13 rfl (by decide +kernel) (by simp [Fz.int_iff, Fz.bool_iff, Fz.agg_iff, Fz.str_iff]) (W_start ?_)
  simp only [Try.f13, go_sem, Nat.reduceAdd, Nat.reduceSub]
  repeat' first
    | with_reducible refine W_seq ?_
    | with_reducible refine W_block ?_
    | with_reducible refine W_skip ?_
    | with_reducible refine N_code ?_
    | with_reducible refine N_blk ?_
    | with_reducible refine W_exit ?_
    | with_reducible refine E_blk ?_
    | with_reducible refine E_code ?_
    | with_reducible refine E_blk_ne (by decide) ?_
    | with_reducible refine W_ret ?_
    | with_reducible refine R_code ?_
    | with_reducible refine R_blk ?_
    | with_reducible refine R_nil ?_
    | with_reducible refine L_exit ?_
    | with_reducible refine L_ret ?_
    | ((with_reducible apply W_condE); (case hb => exact rfl); (case e1 => simp only [putT, List.set_cons_succ, List.set_cons_zero]; exact rfl); (case e2 => simp only [putT, List.set_cons_succ, List.set_cons_zero]; exact rfl); all_goals (intro hb; first | (exfalso; revert hb; simp; done) | (exfalso; simp at hb; omega) | simp only [beq_iff_eq, beq_eq_false_iff_ne, bne_iff_ne, bne_eq_false_iff_eq, ne_eq, decide_eq_true_eq, decide_eq_false_iff_not, Int.not_lt, Int.not_le] at hb | skip))
    | (with_reducible refine W_reg fun K hK => ?_)
    | (with_reducible refine W_drw mixed (by decide +kernel) fun K hK => ?_)
    | ((with_reducible refine AO_nil (hK _ ?_)); clear hK K)
    | ((with_reducible apply AO_stepE); (case hg => first | exact guardA_none rfl | exact guardA_yes rfl rfl rfl (by with_reducible rfl)); (case hs => simp (maxSteps := 2000000) only [go_sem, true_implies, false_implies, implies_true, reduceCtorEq, and_true, true_and, Nat.reduceAdd, Nat.reduceSub, Nat.reduceMul, Nat.reduceLT, Nat.reduceLeDiff, Nat.reduceEqDiff, Nat.reduceBEq, if_true, if_false, ite_true, ite_false, reduceIte, Bool.false_eq_true, Bool.true_eq_false, Bool.not_true, Bool.not_false, beq_self_eq_true, decide_true, decide_false, Int.reduceNeg, Int.reduceLT, Int.reduceLE, Int.reduceEq, Int.reduceToNat, Int.reducePow, Nat.reducePow, Nat.min_eq_left, Nat.min_eq_right, Int.reduceMul, Int.reduceAdd, Int.reduceSub, Int.reduceBEq, Int.reduceBNe, bne_self_eq_false, beq_true, beq_false]; exact rfl); (case ht => simp only [putT, List.set_cons_succ, List.set_cons_zero]; exact rfl); (case hn => simp only [Nat.reduceAdd]; exact rfl))
    | ((with_reducible apply AO_skipE); (case hg => first | exact guardA_gone rfl rfl rfl | exact guardA_noT rfl rfl rfl (by with_reducible rfl) | exact guardA_noF rfl rfl rfl (by with_reducible rfl)); (case ht => simp only [putT, List.set_cons_succ, List.set_cons_zero]; exact rfl); (case hn => simp only [Nat.reduceAdd]; exact rfl))
    | ((with_reducible apply D_end); (case hi => exact rfl); (case hind => kernel_rfl); (case hn => simp only [Nat.reduceAdd]; exact rfl); (with_reducible refine hK _ ?_); clear hK K)
    | ((with_reducible apply D_stepE); (case hg => first | exact guardA_none rfl | exact guardA_yes rfl rfl rfl (by with_reducible rfl)); (case hs => simp (maxSteps := 2000000) only [go_sem, true_implies, false_implies, implies_true, reduceCtorEq, and_true, true_and, Nat.reduceAdd, Nat.reduceSub, Nat.reduceMul, Nat.reduceLT, Nat.reduceLeDiff, Nat.reduceEqDiff, Nat.reduceBEq, if_true, if_false, ite_true, ite_false, reduceIte, Bool.false_eq_true, Bool.true_eq_false, Bool.not_true, Bool.not_false, beq_self_eq_true, decide_true, decide_false, Int.reduceNeg, Int.reduceLT, Int.reduceLE, Int.reduceEq, Int.reduceToNat, Int.reducePow, Nat.reducePow, Nat.min_eq_left, Nat.min_eq_right, Int.reduceMul, Int.reduceAdd, Int.reduceSub, Int.reduceBEq, Int.reduceBNe, bne_self_eq_false, beq_true, beq_false]; exact rfl); (case ht => simp only [putT, List.set_cons_succ, List.set_cons_zero]; exact rfl); (case hn => simp only [Nat.reduceAdd]; exact rfl); (case hc => exact rfl))
    | ((with_reducible apply D_skipE); (case hg => first | exact guardA_gone rfl rfl rfl | exact guardA_noT rfl rfl rfl (by with_reducible rfl) | exact guardA_noF rfl rfl rfl (by with_reducible rfl)); (case ht => simp only [putT, List.set_cons_succ, List.set_cons_zero]; exact rfl); (case hn => simp only [Nat.reduceAdd]; exact rfl); (case hc => exact rfl))
    | ((with_reducible apply AO_callE); (case hg => first | exact guardA_none rfl | exact guardA_yes rfl rfl rfl (by with_reducible rfl)); (case ho => exact rfl); (case ht => exact rfl); (case hp' => first | exact rin_ok _); (case htm => simp only [putT, List.set_cons_succ, List.set_cons_zero]; exact rfl); (case hn => simp only [Nat.reduceAdd]; exact rfl))
    | ((with_reducible apply D_callE); (case hg => first | exact guardA_none rfl | exact guardA_yes rfl rfl rfl (by with_reducible rfl)); (case ho => exact rfl); (case ht => exact rfl); (case hp' => first | exact rin_ok _); (case htm => simp only [putT, List.set_cons_succ, List.set_cons_zero]; exact rfl); (case hn => simp only [Nat.reduceAdd]; exact rfl); (case hc => exact rfl))
    | ((fail_if_success ((with_reducible apply AO_stepE); (case hg => first | exact guardA_none rfl | exact guardA_yes rfl rfl rfl (by with_reducible rfl)))); (fail_if_success ((with_reducible apply AO_skipE); (case hg => first | exact guardA_gone rfl rfl rfl | exact guardA_noT rfl rfl rfl (by with_reducible rfl) | exact guardA_noF rfl rfl rfl (by with_reducible rfl)))); (with_reducible apply AO_split); (case hg => exact rfl); (case hd => exact rfl); (case hb => exact rfl); (case e1 => simp only [putT, List.set_cons_succ, List.set_cons_zero]; exact rfl); (case e2 => simp only [putT, List.set_cons_succ, List.set_cons_zero]; exact rfl); all_goals intro hg)
    | ((fail_if_success ((with_reducible apply D_stepE); (case hg => first | exact guardA_none rfl | exact guardA_yes rfl rfl rfl (by with_reducible rfl)))); (fail_if_success ((with_reducible apply D_skipE); (case hg => first | exact guardA_gone rfl rfl rfl | exact guardA_noT rfl rfl rfl (by with_reducible rfl) | exact guardA_noF rfl rfl rfl (by with_reducible rfl)))); (with_reducible apply D_split); (case hg => exact rfl); (case hd => exact rfl); (case hb => exact rfl); (case e1 => simp only [putT, List.set_cons_succ, List.set_cons_zero]; exact rfl); (case e2 => simp only [putT, List.set_cons_succ, List.set_cons_zero]; exact rfl); all_goals intro hg)
  all_goals (refine retQ_int rfl ?_)
  · congr 1; omega
  · congr 1; rw [wrap_id (by omega) (by omega)]; omega

theorem maskN (a : Nat) (ha : a < 18446744073709551616) : band .u64 a 4294967295 = ((a % 4294967296 : Nat) : Int) := by
  have h := bits_and_u64_nat a 4294967295 ha (by omega)
  have e : a &&& 4294967295 = a % 4294967296 := Nat.and_two_pow_sub_one_eq_mod a 32
  rw [e] at h
  exact h
theorem fdN (a : Nat) : (a : Int).fdiv 4294967296 = ((a / 4294967296 : Nat) : Int) := by
  rw [Int.fdiv_eq_ediv_of_nonneg _ (by omega)]; omega
theorem mulN (a b : Nat) : (a : Int) * (b : Int) = ((a * b : Nat) : Int) := (Int.natCast_mul a b).symm
theorem addN (a b : Nat) : (a : Int) + (b : Int) = ((a + b : Nat) : Int) := (Int.natCast_add a b).symm
theorem wrapN (a : Nat) (ha : a < 18446744073709551616) : IntKind.u64.wrap (a : Int) = (a : Int) := by rw [IntKind.wrap_u64]; omega
theorem wrapM (a : Nat) : IntKind.u64.wrap (a : Int) = ((a % 18446744073709551616 : Nat) : Int) := by rw [IntKind.wrap_u64]; omega

theorem mul64N (x y : Nat) (hx : x < 18446744073709551616) (hy : y < 18446744073709551616) : PCall Try.prog 23 [.int .u64 x, .int .u64 y] (· = .tuple [.int .u64 ((x * y / 18446744073709551616 : Nat) : Int), .int .u64 ((x * y % 18446744073709551616 : Nat) : Int)]) := by
  refine PCall_intro (c := Try.f23.body.getD .skip) Try.func23 rfl (by decide +kernel) (by simp [Fz.int_iff, Fz.bool_iff, Fz.agg_iff, Fz.str_iff]) (W_start ?_)
  simp only [Try.f23, go_sem, Nat.reduceAdd, Nat.reduceSub]
  repeat' first
    | with_reducible refine W_seq ?_
    | with_reducible refine W_block ?_
    | with_reducible refine W_skip ?_
    | with_reducible refine N_code ?_
    | with_reducible refine N_blk ?_
    | with_reducible refine W_exit ?_
    | with_reducible refine E_blk ?_
    | with_reducible refine E_code ?_
    | with_reducible refine E_blk_ne (by decide) ?_
    | with_reducible refine W_ret ?_
    | with_reducible refine R_code ?_
    | with_reducible refine R_blk ?_
    | with_reducible refine R_nil ?_
    | with_reducible refine L_exit ?_
    | with_reducible refine L_ret ?_
    | ((with_reducible apply W_condE); (case hb => exact rfl); (case e1 => simp only [putT, List.set_cons_succ, List.set_cons_zero]; exact rfl); (case e2 => simp only [putT, List.set_cons_succ, List.set_cons_zero]; exact rfl); all_goals (intro hb; first | (exfalso; revert hb; simp; done) | (exfalso; simp at hb; omega) | simp only [beq_iff_eq, beq_eq_false_iff_ne, bne_iff_ne, bne_eq_false_iff_eq, ne_eq, decide_eq_true_eq, decide_eq_false_iff_not, Int.not_lt, Int.not_le] at hb | skip))
    | (with_reducible refine W_reg fun K hK => ?_)
    | (with_reducible refine W_drw mixed (by decide +kernel) fun K hK => ?_)
    | ((with_reducible refine AO_nil (hK _ ?_)); clear hK K)
    | ((with_reducible apply AO_stepE); (case hg => first | exact guardA_none rfl | exact guardA_yes rfl rfl rfl (by with_reducible rfl)); (case hs => simp (maxSteps := 2000000) only [go_sem, true_implies, false_implies, implies_true, reduceCtorEq, and_true, true_and, Nat.reduceAdd, Nat.reduceSub, Nat.reduceMul, Nat.reduceLT, Nat.reduceLeDiff, Nat.reduceEqDiff, Nat.reduceBEq, if_true, if_false, ite_true, ite_false, reduceIte, Bool.false_eq_true, Bool.true_eq_false, Bool.not_true, Bool.not_false, beq_self_eq_true, decide_true, decide_false, Int.reduceNeg, Int.reduceLT, Int.reduceLE, Int.reduceEq, Int.reduceToNat, Int.reducePow, Nat.reducePow, Nat.min_eq_left, Nat.min_eq_right, Int.reduceMul, Int.reduceAdd, Int.reduceSub, Int.reduceBEq, Int.reduceBNe, bne_self_eq_false, beq_true, beq_false]; exact rfl); (case ht => simp only [putT, List.set_cons_succ, List.set_cons_zero]; exact rfl); (case hn => simp only [Nat.reduceAdd]; exact rfl))
    | ((with_reducible apply AO_skipE); (case hg => first | exact guardA_gone rfl rfl rfl | exact guardA_noT rfl rfl rfl (by with_reducible rfl) | exact guardA_noF rfl rfl rfl (by with_reducible rfl)); (case ht => simp only [putT, List.set_cons_succ, List.set_cons_zero]; exact rfl); (case hn => simp only [Nat.reduceAdd]; exact rfl))
    | ((with_reducible apply D_end); (case hi => exact rfl); (case hind => kernel_rfl); (case hn => simp only [Nat.reduceAdd]; exact rfl); (with_reducible refine hK _ ?_); clear hK K)
    | ((with_reducible apply D_stepE); (case hg => first | exact guardA_none rfl | exact guardA_yes rfl rfl rfl (by with_reducible rfl)); (case hs => simp (maxSteps := 2000000) only [go_sem, true_implies, false_implies, implies_true, reduceCtorEq, and_true, true_and, Nat.reduceAdd, Nat.reduceSub, Nat.reduceMul, Nat.reduceLT, Nat.reduceLeDiff, Nat.reduceEqDiff, Nat.reduceBEq, if_true, if_false, ite_true, ite_false, reduceIte, Bool.false_eq_true, Bool.true_eq_false, Bool.not_true, Bool.not_false, beq_self_eq_true, decide_true, decide_false, Int.reduceNeg, Int.reduceLT, Int.reduceLE, Int.reduceEq, Int.reduceToNat, Int.reducePow, Nat.reducePow, Nat.min_eq_left, Nat.min_eq_right, Int.reduceMul, Int.reduceAdd, Int.reduceSub, Int.reduceBEq, Int.reduceBNe, bne_self_eq_false, beq_true, beq_false]; exact rfl); (case ht => simp only [putT, List.set_cons_succ, List.set_cons_zero]; exact rfl); (case hn => simp only [Nat.reduceAdd]; exact rfl); (case hc => exact rfl))
    | ((with_reducible apply D_skipE); (case hg => first | exact guardA_gone rfl rfl rfl | exact guardA_noT rfl rfl rfl (by with_reducible rfl) | exact guardA_noF rfl rfl rfl (by with_reducible rfl)); (case ht => simp only [putT, List.set_cons_succ, List.set_cons_zero]; exact rfl); (case hn => simp only [Nat.reduceAdd]; exact rfl); (case hc => exact rfl))
    | ((fail_if_success ((with_reducible apply AO_stepE); (case hg => first | exact guardA_none rfl | exact guardA_yes rfl rfl rfl (by with_reducible rfl)))); (fail_if_success ((with_reducible apply AO_skipE); (case hg => first | exact guardA_gone rfl rfl rfl | exact guardA_noT rfl rfl rfl (by with_reducible rfl) | exact guardA_noF rfl rfl rfl (by with_reducible rfl)))); (with_reducible apply AO_split); (case hg => exact rfl); (case hd => exact rfl); (case hb => exact rfl); (case e1 => simp only [putT, List.set_cons_succ, List.set_cons_zero]; exact rfl); (case e2 => simp only [putT, List.set_cons_succ, List.set_cons_zero]; exact rfl); all_goals intro hg)
    | ((fail_if_success ((with_reducible apply D_stepE); (case hg => first | exact guardA_none rfl | exact guardA_yes rfl rfl rfl (by with_reducible rfl)))); (fail_if_success ((with_reducible apply D_skipE); (case hg => first | exact guardA_gone rfl rfl rfl | exact guardA_noT rfl rfl rfl (by with_reducible rfl) | exact guardA_noF rfl rfl rfl (by with_reducible rfl)))); (with_reducible apply D_split); (case hg => exact rfl); (case hd => exact rfl); (case hb => exact rfl); (case e1 => simp only [putT, List.set_cons_succ, List.set_cons_zero]; exact rfl); (case e2 => simp only [putT, List.set_cons_succ, List.set_cons_zero]; exact rfl); all_goals intro hg)
  refine retQ_int2 rfl rfl ?_
  obtain ⟨bd, bt, bw, hhi⟩ := Lib.mul64_hi x y hx hy
  have ba := Lib.half_mul_le (a := x / 4294967296) (b := y / 4294967296) (by omega) (by omega)
  have bb := Lib.half_mul_le (a := x / 4294967296) (b := y % 4294967296) (by omega) (by omega)
  have bc := Lib.half_mul_le (a := x % 4294967296) (b := y / 4294967296) (by omega) (by omega)
  have ba' : x / 4294967296 * (y / 4294967296) < 18446744073709551616 := by omega
  have bb' : x / 4294967296 * (y % 4294967296) < 18446744073709551616 := by omega
  have bc' : x % 4294967296 * (y / 4294967296) < 18446744073709551616 := by omega
  have bh1 : x / 4294967296 * (y / 4294967296) + (x / 4294967296 * (y % 4294967296) + x % 4294967296 * (y % 4294967296) / 4294967296) / 4294967296 < 18446744073709551616 := by omega
  have bh : x / 4294967296 * (y / 4294967296) + (x / 4294967296 * (y % 4294967296) + x % 4294967296 * (y % 4294967296) / 4294967296) / 4294967296 + ((x / 4294967296 * (y % 4294967296) + x % 4294967296 * (y % 4294967296) / 4294967296) % 4294967296 + x % 4294967296 * (y / 4294967296)) / 4294967296 < 18446744073709551616 := by omega
  simp only [maskN x hx, maskN y hy, fdN, mulN, addN, wrapN _ bd, wrapN _ bb', wrapN _ bt, maskN _ bt, wrapN _ bc', wrapN _ bw, wrapN _ ba', wrapN _ bh1, wrapN _ bh, wrapM (x * y)]
  rw [hhi]

theorem mul64_ok (x y : Int) (hx : 0 ≤ x ∧ x < 18446744073709551616) (hy : 0 ≤ y ∧ y < 18446744073709551616) : PCall Try.prog 23 [.int .u64 x, .int .u64 y] (· = .tuple [.int .u64 (x * y / 18446744073709551616), .int .u64 (x * y % 18446744073709551616)]) := by
  obtain ⟨a, rfl⟩ : ∃ a : Nat, x = a := ⟨x.toNat, by omega⟩
  obtain ⟨b, rfl⟩ : ∃ b : Nat, y = b := ⟨y.toNat, by omega⟩
  have h := mul64N a b (by omega) (by omega)
  rw [Int.natCast_ediv, Int.natCast_emod, Int.natCast_mul] at h
  exact h

theorem div64_0 (x y : Int) (hx : 0 ≤ x ∧ x < 18446744073709551616) (hy : 0 < y) : PCall Try.prog 28 [.int .u64 0, .int .u64 x, .int .u64 y] (· = .tuple [.int .u64 (x / y), .int .u64 (x % y)]) := by
  have hy0 : ¬ y = 0 := by omega
  have hl : ¬ y ≤ 0 := by omega
  refine PCall_intro (c := Try.f28.body.getD .skip) Try.func28 rfl (by decide +kernel) (by simp [Fz.int_iff, Fz.bool_iff, Fz.agg_iff, Fz.str_iff]) (W_start ?_)
  simp only [Try.f28, go_sem, Nat.reduceAdd, Nat.reduceSub]
  repeat' first
    | with_reducible refine W_seq ?_
    | with_reducible refine W_block ?_
    | with_reducible refine W_skip ?_
    | with_reducible refine N_code ?_
    | with_reducible refine N_blk ?_
    | with_reducible refine W_exit ?_
    | with_reducible refine E_blk ?_
    | with_reducible refine E_code ?_
    | with_reducible refine E_blk_ne (by decide) ?_
    | with_reducible refine W_ret ?_
    | with_reducible refine R_code ?_
    | with_reducible refine R_blk ?_
    | with_reducible refine R_nil ?_
    | with_reducible refine L_exit ?_
    | with_reducible refine L_ret ?_
    | ((with_reducible apply W_condE); (case hb => exact rfl); (case e1 => simp only [putT, List.set_cons_succ, List.set_cons_zero]; exact rfl); (case e2 => simp only [putT, List.set_cons_succ, List.set_cons_zero]; exact rfl); all_goals (intro hb; first | (exfalso; revert hb; simp; done) | (exfalso; simp at hb; omega) | simp only [beq_iff_eq, beq_eq_false_iff_ne, bne_iff_ne, bne_eq_false_iff_eq, ne_eq, decide_eq_true_eq, decide_eq_false_iff_not, Int.not_lt, Int.not_le] at hb | skip))
    | (with_reducible refine W_reg fun K hK => ?_)
    | (with_reducible refine W_drw mixed (by decide +kernel) fun K hK => ?_)
    | ((with_reducible refine AO_nil (hK _ ?_)); clear hK K)
    | ((with_reducible apply AO_stepE); (case hg => first | exact guardA_none rfl | exact guardA_yes rfl rfl rfl (by with_reducible rfl)); (case hs => simp (maxSteps := 2000000) only [go_sem, true_implies, false_implies, implies_true, reduceCtorEq, and_true, true_and, Nat.reduceAdd, Nat.reduceSub, Nat.reduceMul, Nat.reduceLT, Nat.reduceLeDiff, Nat.reduceEqDiff, Nat.reduceBEq, if_true, if_false, ite_true, ite_false, reduceIte, Bool.false_eq_true, Bool.true_eq_false, Bool.not_true, Bool.not_false, beq_self_eq_true, decide_true, decide_false, Int.reduceNeg, Int.reduceLT, Int.reduceLE, Int.reduceEq, Int.reduceToNat, Int.reducePow, Nat.reducePow, Nat.min_eq_left, Nat.min_eq_right, Int.reduceMul, Int.reduceAdd, Int.reduceSub, Int.reduceBEq, Int.reduceBNe, bne_self_eq_false, beq_true, beq_false, hy0]; exact rfl); (case ht => simp only [putT, List.set_cons_succ, List.set_cons_zero]; exact rfl); (case hn => simp only [Nat.reduceAdd]; exact rfl))
    | ((with_reducible apply AO_skipE); (case hg => first | exact guardA_gone rfl rfl rfl | exact guardA_noT rfl rfl rfl (by with_reducible rfl) | exact guardA_noF rfl rfl rfl (by with_reducible rfl)); (case ht => simp only [putT, List.set_cons_succ, List.set_cons_zero]; exact rfl); (case hn => simp only [Nat.reduceAdd]; exact rfl))
    | ((with_reducible apply D_end); (case hi => exact rfl); (case hind => kernel_rfl); (case hn => simp only [Nat.reduceAdd]; exact rfl); (with_reducible refine hK _ ?_); clear hK K)
    | ((with_reducible apply D_stepE); (case hg => first | exact guardA_none rfl | exact guardA_yes rfl rfl rfl (by with_reducible rfl)); (case hs => simp (maxSteps := 2000000) only [go_sem, true_implies, false_implies, implies_true, reduceCtorEq, and_true, true_and, Nat.reduceAdd, Nat.reduceSub, Nat.reduceMul, Nat.reduceLT, Nat.reduceLeDiff, Nat.reduceEqDiff, Nat.reduceBEq, if_true, if_false, ite_true, ite_false, reduceIte, Bool.false_eq_true, Bool.true_eq_false, Bool.not_true, Bool.not_false, beq_self_eq_true, decide_true, decide_false, Int.reduceNeg, Int.reduceLT, Int.reduceLE, Int.reduceEq, Int.reduceToNat, Int.reducePow, Nat.reducePow, Nat.min_eq_left, Nat.min_eq_right, Int.reduceMul, Int.reduceAdd, Int.reduceSub, Int.reduceBEq, Int.reduceBNe, bne_self_eq_false, beq_true, beq_false, hy0]; exact rfl); (case ht => simp only [putT, List.set_cons_succ, List.set_cons_zero]; exact rfl); (case hn => simp only [Nat.reduceAdd]; exact rfl); (case hc => exact rfl))
    | ((with_reducible apply D_skipE); (case hg => first | exact guardA_gone rfl rfl rfl | exact guardA_noT rfl rfl rfl (by with_reducible rfl) | exact guardA_noF rfl rfl rfl (by with_reducible rfl)); (case ht => simp only [putT, List.set_cons_succ, List.set_cons_zero]; exact rfl); (case hn => simp only [Nat.reduceAdd]; exact rfl); (case hc => exact rfl))
    | ((fail_if_success ((with_reducible apply AO_stepE); (case hg => first | exact guardA_none rfl | exact guardA_yes rfl rfl rfl (by with_reducible rfl)))); (fail_if_success ((with_reducible apply AO_skipE); (case hg => first | exact guardA_gone rfl rfl rfl | exact guardA_noT rfl rfl rfl (by with_reducible rfl) | exact guardA_noF rfl rfl rfl (by with_reducible rfl)))); (with_reducible apply AO_split); (case hg => exact rfl); (case hd => exact rfl); (case hb => exact rfl); (case e1 => simp only [putT, List.set_cons_succ, List.set_cons_zero]; exact rfl); (case e2 => simp only [putT, List.set_cons_succ, List.set_cons_zero]; exact rfl); all_goals intro hg)
    | ((fail_if_success ((with_reducible apply D_stepE); (case hg => first | exact guardA_none rfl | exact guardA_yes rfl rfl rfl (by with_reducible rfl)))); (fail_if_success ((with_reducible apply D_skipE); (case hg => first | exact guardA_gone rfl rfl rfl | exact guardA_noT rfl rfl rfl (by with_reducible rfl) | exact guardA_noF rfl rfl rfl (by with_reducible rfl)))); (with_reducible apply D_split); (case hg => exact rfl); (case hd => exact rfl); (case hb => exact rfl); (case e1 => simp only [putT, List.set_cons_succ, List.set_cons_zero]; exact rfl); (case e2 => simp only [putT, List.set_cons_succ, List.set_cons_zero]; exact rfl); all_goals intro hg)
  refine retQ_int2 rfl rfl ?_
  have h1 : x.tdiv y = x / y := Int.tdiv_eq_ediv_of_nonneg hx.1
  have h2 : x.tmod y = x % y := Int.tmod_eq_emod_of_nonneg hx.1
  have h3 : 0 ≤ x / y := Int.ediv_nonneg hx.1 (by omega)
  have h4 : x / y ≤ x := Int.ediv_le_self _ hx.1
  rw [h1, h2, wrap_id h3 (by omega)]

theorem mul_lt {x y : Int} (hx : 0 ≤ x ∧ x ≤ 4611686018427387904) (hy : 0 ≤ y ∧ y ≤ 4611686018427387904) : 0 ≤ x * y ∧ x * y ≤ 4611686018427387904 * 4611686018427387904 :=
  ⟨Int.mul_nonneg hx.1 hy.1, Int.mul_le_mul hx.2 hy.2 hy.1 (by omega)⟩

theorem mul_ok (a b : Int) (ha : 0 ≤ a) (hb0 : 0 ≤ b) : PCall Try.prog 16 [.int .u64 a, .int .u64 b] (· = .int .u64 (min (min a 4611686018427387904 * min b 4611686018427387904) 4611686018427387904)) := by
  have hm := mul_lt (x := min a 4611686018427387904) (y := min b 4611686018427387904) (by omega) (by omega)
  have i4 := mul64_ok (min a 4611686018427387904) (min b 4611686018427387904) (by omega) (by omega)
  generalize min a 4611686018427387904 * min b 4611686018427387904 = p at *
  refine PCall_intro (c := Try.f16.body.getD .skip) Try.func16 rfl (by decide +kernel) (by simp [Fz.int_iff, Fz.bool_iff, Fz.agg_iff, Fz.str_iff]) (W_start ?_)
  simp only [Try.f16, go_sem, Nat.reduceAdd, Nat.reduceSub]
  repeat' first
    | with_reducible refine W_seq ?_
    | with_reducible refine W_block ?_
    | with_reducible refine W_skip ?_
    | with_reducible refine N_code ?_
    | with_reducible refine N_blk ?_
    | with_reducible refine W_exit ?_
    | with_reducible refine E_blk ?_
    | with_reducible refine E_code ?_
    | with_reducible refine E_blk_ne (by decide) ?_
    | with_reducible refine W_ret ?_
    | with_reducible refine R_code ?_
    | with_reducible refine R_blk ?_
    | with_reducible refine R_nil ?_
    | with_reducible refine L_exit ?_
    | with_reducible refine L_ret ?_
    | ((with_reducible apply W_condE); (case hb => exact rfl); (case e1 => simp only [putT, List.set_cons_succ, List.set_cons_zero]; exact rfl); (case e2 => simp only [putT, List.set_cons_succ, List.set_cons_zero]; exact rfl); all_goals (intro hb; first | (exfalso; revert hb; simp; done) | (exfalso; simp at hb; omega) | simp only [beq_iff_eq, beq_eq_false_iff_ne, bne_iff_ne, bne_eq_false_iff_eq, ne_eq, decide_eq_true_eq, decide_eq_false_iff_not, Int.not_lt, Int.not_le] at hb | skip))
    | (with_reducible refine W_reg fun K hK => ?_)
    | (with_reducible refine W_drw mixed (by decide +kernel) fun K hK => ?_)
    | ((with_reducible refine AO_nil (hK _ ?_)); clear hK K)
    | ((with_reducible apply AO_stepE); (case hg => first | exact guardA_none rfl | exact guardA_yes rfl rfl rfl (by with_reducible rfl)); (case hs => simp (maxSteps := 2000000) only [go_sem, true_implies, false_implies, implies_true, reduceCtorEq, and_true, true_and, Nat.reduceAdd, Nat.reduceSub, Nat.reduceMul, Nat.reduceLT, Nat.reduceLeDiff, Nat.reduceEqDiff, Nat.reduceBEq, if_true, if_false, ite_true, ite_false, reduceIte, Bool.false_eq_true, Bool.true_eq_false, Bool.not_true, Bool.not_false, beq_self_eq_true, decide_true, decide_false, Int.reduceNeg, Int.reduceLT, Int.reduceLE, Int.reduceEq, Int.reduceToNat, Int.reducePow, Nat.reducePow, Nat.min_eq_left, Nat.min_eq_right, Int.reduceMul, Int.reduceAdd, Int.reduceSub, Int.reduceBEq, Int.reduceBNe, bne_self_eq_false, beq_true, beq_false]; exact rfl); (case ht => simp only [putT, List.set_cons_succ, List.set_cons_zero]; exact rfl); (case hn => simp only [Nat.reduceAdd]; exact rfl))
    | ((with_reducible apply AO_skipE); (case hg => first | exact guardA_gone rfl rfl rfl | exact guardA_noT rfl rfl rfl (by with_reducible rfl) | exact guardA_noF rfl rfl rfl (by with_reducible rfl)); (case ht => simp only [putT, List.set_cons_succ, List.set_cons_zero]; exact rfl); (case hn => simp only [Nat.reduceAdd]; exact rfl))
    | ((with_reducible apply D_end); (case hi => exact rfl); (case hind => kernel_rfl); (case hn => simp only [Nat.reduceAdd]; exact rfl); (with_reducible refine hK _ ?_); clear hK K)
    | ((with_reducible apply D_stepE); (case hg => first | exact guardA_none rfl | exact guardA_yes rfl rfl rfl (by with_reducible rfl)); (case hs => simp (maxSteps := 2000000) only [go_sem, true_implies, false_implies, implies_true, reduceCtorEq, and_true, true_and, Nat.reduceAdd, Nat.reduceSub, Nat.reduceMul, Nat.reduceLT, Nat.reduceLeDiff, Nat.reduceEqDiff, Nat.reduceBEq, if_true, if_false, ite_true, ite_false, reduceIte, Bool.false_eq_true, Bool.true_eq_false, Bool.not_true, Bool.not_false, beq_self_eq_true, decide_true, decide_false, Int.reduceNeg, Int.reduceLT, Int.reduceLE, Int.reduceEq, Int.reduceToNat, Int.reducePow, Nat.reducePow, Nat.min_eq_left, Nat.min_eq_right, Int.reduceMul, Int.reduceAdd, Int.reduceSub, Int.reduceBEq, Int.reduceBNe, bne_self_eq_false, beq_true, beq_false]; exact rfl); (case ht => simp only [putT, List.set_cons_succ, List.set_cons_zero]; exact rfl); (case hn => simp only [Nat.reduceAdd]; exact rfl); (case hc => exact rfl))
    | ((with_reducible apply D_skipE); (case hg => first | exact guardA_gone rfl rfl rfl | exact guardA_noT rfl rfl rfl (by with_reducible rfl) | exact guardA_noF rfl rfl rfl (by with_reducible rfl)); (case ht => simp only [putT, List.set_cons_succ, List.set_cons_zero]; exact rfl); (case hn => simp only [Nat.reduceAdd]; exact rfl); (case hc => exact rfl))
    | ((with_reducible apply AO_callE); (case hg => first | exact guardA_none rfl | exact guardA_yes rfl rfl rfl (by with_reducible rfl)); (case ho => exact rfl); (case ht => exact rfl); (case hp' => first | exact in_ok _ | exact i4); (case htm => simp only [putT, List.set_cons_succ, List.set_cons_zero]; exact rfl); (case hn => simp only [Nat.reduceAdd]; exact rfl))
    | ((with_reducible apply D_callE); (case hg => first | exact guardA_none rfl | exact guardA_yes rfl rfl rfl (by with_reducible rfl)); (case ho => exact rfl); (case ht => exact rfl); (case hp' => first | exact in_ok _ | exact i4); (case htm => simp only [putT, List.set_cons_succ, List.set_cons_zero]; exact rfl); (case hn => simp only [Nat.reduceAdd]; exact rfl); (case hc => exact rfl))
    | ((fail_if_success ((with_reducible apply AO_stepE); (case hg => first | exact guardA_none rfl | exact guardA_yes rfl rfl rfl (by with_reducible rfl)))); (fail_if_success ((with_reducible apply AO_skipE); (case hg => first | exact guardA_gone rfl rfl rfl | exact guardA_noT rfl rfl rfl (by with_reducible rfl) | exact guardA_noF rfl rfl rfl (by with_reducible rfl)))); (with_reducible apply AO_split); (case hg => exact rfl); (case hd => exact rfl); (case hb => exact rfl); (case e1 => simp only [putT, List.set_cons_succ, List.set_cons_zero]; exact rfl); (case e2 => simp only [putT, List.set_cons_succ, List.set_cons_zero]; exact rfl); all_goals intro hg)
    | ((fail_if_success ((with_reducible apply D_stepE); (case hg => first | exact guardA_none rfl | exact guardA_yes rfl rfl rfl (by with_reducible rfl)))); (fail_if_success ((with_reducible apply D_skipE); (case hg => first | exact guardA_gone rfl rfl rfl | exact guardA_noT rfl rfl rfl (by with_reducible rfl) | exact guardA_noF rfl rfl rfl (by with_reducible rfl)))); (with_reducible apply D_split); (case hg => exact rfl); (case hd => exact rfl); (case hb => exact rfl); (case e1 => simp only [putT, List.set_cons_succ, List.set_cons_zero]; exact rfl); (case e2 => simp only [putT, List.set_cons_succ, List.set_cons_zero]; exact rfl); all_goals intro hg)
  all_goals refine retQ_int rfl ?_
  · congr 1
    omega
  · congr 1
    omega

theorem muldiv_small (a b c : Int) (ha : 0 ≤ a ∧ a ≤ 4611686018427387904) (hb0 : 0 ≤ b ∧ b ≤ 4611686018427387904) (hc : 0 < c ∧ c ≤ 4611686018427387904) (hp : a * b < 18446744073709551616) : PCall Try.prog 18 [.int .u64 a, .int .u64 b, .int .u64 c] (· = .int .u64 (min (a * b / c) 4611686018427387904)) := by
  have hm := mul_lt ha hb0
  have ea : min a 4611686018427387904 = a := by omega
  have eb : min b 4611686018427387904 = b := by omega
  have ec : min c 4611686018427387904 = c := by omega
  have i1 : PCall Try.prog 20 [.int .u64 a] (· = .int .u64 a) := by have := in_ok a; rw [ea] at this; exact this
  have i2 : PCall Try.prog 20 [.int .u64 b] (· = .int .u64 b) := by have := in_ok b; rw [eb] at this; exact this
  have i3 : PCall Try.prog 20 [.int .u64 c] (· = .int .u64 c) := by have := in_ok c; rw [ec] at this; exact this
  have i4 : PCall Try.prog 23 [.int .u64 a, .int .u64 b] (· = .tuple [.int .u64 0, .int .u64 (a * b)]) := by
    have := mul64_ok a b (by omega) (by omega)
    rw [Int.ediv_eq_zero_of_lt hm.1 hp, Int.emod_eq_of_lt hm.1 hp] at this
    exact this
  refine PCall_intro (c := Try.f18.body.getD .skip) Try.func18 rfl (by decide +kernel) (by simp [Fz.int_iff, Fz.bool_iff, Fz.agg_iff, Fz.str_iff]) (W_start ?_)
  simp only [Try.f18, go_sem, Nat.reduceAdd, Nat.reduceSub]
  repeat' first
    | with_reducible refine W_seq ?_
    | with_reducible refine W_block ?_
    | with_reducible refine W_skip ?_
    | with_reducible refine N_code ?_
    | with_reducible refine N_blk ?_
    | with_reducible refine W_exit ?_
    | with_reducible refine E_blk ?_
    | with_reducible refine E_code ?_
    | with_reducible refine E_blk_ne (by decide) ?_
    | with_reducible refine W_ret ?_
    | with_reducible refine R_code ?_
    | with_reducible refine R_blk ?_
    | with_reducible refine R_nil ?_
    | with_reducible refine L_exit ?_
    | with_reducible refine L_ret ?_
    | ((with_reducible apply W_condE); (case hb => exact rfl); (case e1 => simp only [putT, List.set_cons_succ, List.set_cons_zero]; exact rfl); (case e2 => simp only [putT, List.set_cons_succ, List.set_cons_zero]; exact rfl); all_goals (intro hb; first | (exfalso; revert hb; simp; done) | (exfalso; simp at hb; omega) | simp only [beq_iff_eq, beq_eq_false_iff_ne, bne_iff_ne, bne_eq_false_iff_eq, ne_eq, decide_eq_true_eq, decide_eq_false_iff_not, Int.not_lt, Int.not_le] at hb | skip))
    | (with_reducible refine W_reg fun K hK => ?_)
    | (with_reducible refine W_drw mixed (by decide +kernel) fun K hK => ?_)
    | ((with_reducible refine AO_nil (hK _ ?_)); clear hK K)
    | ((with_reducible apply AO_stepE); (case hg => first | exact guardA_none rfl | exact guardA_yes rfl rfl rfl (by with_reducible rfl)); (case hs => simp (maxSteps := 2000000) only [go_sem, true_implies, false_implies, implies_true, reduceCtorEq, and_true, true_and, Nat.reduceAdd, Nat.reduceSub, Nat.reduceMul, Nat.reduceLT, Nat.reduceLeDiff, Nat.reduceEqDiff, Nat.reduceBEq, if_true, if_false, ite_true, ite_false, reduceIte, Bool.false_eq_true, Bool.true_eq_false, Bool.not_true, Bool.not_false, beq_self_eq_true, decide_true, decide_false, Int.reduceNeg, Int.reduceLT, Int.reduceLE, Int.reduceEq, Int.reduceToNat, Int.reducePow, Nat.reducePow, Nat.min_eq_left, Nat.min_eq_right, Int.reduceMul, Int.reduceAdd, Int.reduceSub, Int.reduceBEq, Int.reduceBNe, bne_self_eq_false, beq_true, beq_false]; exact rfl); (case ht => simp only [putT, List.set_cons_succ, List.set_cons_zero]; exact rfl); (case hn => simp only [Nat.reduceAdd]; exact rfl))
    | ((with_reducible apply AO_skipE); (case hg => first | exact guardA_gone rfl rfl rfl | exact guardA_noT rfl rfl rfl (by with_reducible rfl) | exact guardA_noF rfl rfl rfl (by with_reducible rfl)); (case ht => simp only [putT, List.set_cons_succ, List.set_cons_zero]; exact rfl); (case hn => simp only [Nat.reduceAdd]; exact rfl))
    | ((with_reducible apply D_end); (case hi => exact rfl); (case hind => kernel_rfl); (case hn => simp only [Nat.reduceAdd]; exact rfl); (with_reducible refine hK _ ?_); clear hK K)
    | ((with_reducible apply D_stepE); (case hg => first | exact guardA_none rfl | exact guardA_yes rfl rfl rfl (by with_reducible rfl)); (case hs => simp (maxSteps := 2000000) only [go_sem, true_implies, false_implies, implies_true, reduceCtorEq, and_true, true_and, Nat.reduceAdd, Nat.reduceSub, Nat.reduceMul, Nat.reduceLT, Nat.reduceLeDiff, Nat.reduceEqDiff, Nat.reduceBEq, if_true, if_false, ite_true, ite_false, reduceIte, Bool.false_eq_true, Bool.true_eq_false, Bool.not_true, Bool.not_false, beq_self_eq_true, decide_true, decide_false, Int.reduceNeg, Int.reduceLT, Int.reduceLE, Int.reduceEq, Int.reduceToNat, Int.reducePow, Nat.reducePow, Nat.min_eq_left, Nat.min_eq_right, Int.reduceMul, Int.reduceAdd, Int.reduceSub, Int.reduceBEq, Int.reduceBNe, bne_self_eq_false, beq_true, beq_false]; exact rfl); (case ht => simp only [putT, List.set_cons_succ, List.set_cons_zero]; exact rfl); (case hn => simp only [Nat.reduceAdd]; exact rfl); (case hc => exact rfl))
    | ((with_reducible apply D_skipE); (case hg => first | exact guardA_gone rfl rfl rfl | exact guardA_noT rfl rfl rfl (by with_reducible rfl) | exact guardA_noF rfl rfl rfl (by with_reducible rfl)); (case ht => simp only [putT, List.set_cons_succ, List.set_cons_zero]; exact rfl); (case hn => simp only [Nat.reduceAdd]; exact rfl); (case hc => exact rfl))
    | ((with_reducible apply AO_callE); (case hg => first | exact guardA_none rfl | exact guardA_yes rfl rfl rfl (by with_reducible rfl)); (case ho => exact rfl); (case ht => exact rfl); (case hp' => first | exact i1 | exact i2 | exact i3 | exact in_ok _ | exact i4 | exact div64_0 _ _ (by omega) (by omega)); (case htm => simp only [putT, List.set_cons_succ, List.set_cons_zero]; exact rfl); (case hn => simp only [Nat.reduceAdd]; exact rfl))
    | ((with_reducible apply D_callE); (case hg => first | exact guardA_none rfl | exact guardA_yes rfl rfl rfl (by with_reducible rfl)); (case ho => exact rfl); (case ht => exact rfl); (case hp' => first | exact i1 | exact i2 | exact i3 | exact in_ok _ | exact i4 | exact div64_0 _ _ (by omega) (by omega)); (case htm => simp only [putT, List.set_cons_succ, List.set_cons_zero]; exact rfl); (case hn => simp only [Nat.reduceAdd]; exact rfl); (case hc => exact rfl))
    | ((fail_if_success ((with_reducible apply AO_stepE); (case hg => first | exact guardA_none rfl | exact guardA_yes rfl rfl rfl (by with_reducible rfl)))); (fail_if_success ((with_reducible apply AO_skipE); (case hg => first | exact guardA_gone rfl rfl rfl | exact guardA_noT rfl rfl rfl (by with_reducible rfl) | exact guardA_noF rfl rfl rfl (by with_reducible rfl)))); (with_reducible apply AO_split); (case hg => exact rfl); (case hd => exact rfl); (case hb => exact rfl); (case e1 => simp only [putT, List.set_cons_succ, List.set_cons_zero]; exact rfl); (case e2 => simp only [putT, List.set_cons_succ, List.set_cons_zero]; exact rfl); all_goals intro hg)
    | ((fail_if_success ((with_reducible apply D_stepE); (case hg => first | exact guardA_none rfl | exact guardA_yes rfl rfl rfl (by with_reducible rfl)))); (fail_if_success ((with_reducible apply D_skipE); (case hg => first | exact guardA_gone rfl rfl rfl | exact guardA_noT rfl rfl rfl (by with_reducible rfl) | exact guardA_noF rfl rfl rfl (by with_reducible rfl)))); (with_reducible apply D_split); (case hg => exact rfl); (case hd => exact rfl); (case hb => exact rfl); (case e1 => simp only [putT, List.set_cons_succ, List.set_cons_zero]; exact rfl); (case e2 => simp only [putT, List.set_cons_succ, List.set_cons_zero]; exact rfl); all_goals intro hg)
  all_goals refine retQ_int rfl ?_
  rfl

theorem cmp_ok (a b c d : Int) (ha : 0 ≤ a ∧ a < 18446744073709551616) (hb0 : 0 ≤ b ∧ b < 18446744073709551616) (hc0 : 0 ≤ c ∧ c < 18446744073709551616) (hd0 : 0 ≤ d ∧ d < 18446744073709551616) :
    PCall Try.prog 14 [.int .u64 a, .int .u64 b, .int .u64 c, .int .u64 d] (· = .int .i64 (if b = 0 then if d = 0 then 0 else 1 else if d = 0 then -1 else if a * d < c * b then -1 else if c * b < a * d then 1 else 0)) := by
  have i1 := mul64_ok a d ha hd0
  have i2 := mul64_ok c b hc0 hb0
  generalize a * d = p at *
  generalize c * b = q at *
  refine PCall_intro (c := Try.f14.body.getD .skip) Try.func14 rfl (by decide +kernel) (by simp [Fz.int_iff, Fz.bool_iff, Fz.agg_iff, Fz.str_iff]) (W_start ?_)
  simp only [Try.f14, go_sem, Nat.reduceAdd, Nat.reduceSub]
  repeat' first
    | with_reducible refine W_seq ?_
    | with_reducible refine W_block ?_
    | with_reducible refine W_skip ?_
    | with_reducible refine N_code ?_
    | with_reducible refine N_blk ?_
    | with_reducible refine W_exit ?_
    | with_reducible refine E_blk ?_
    | with_reducible refine E_code ?_
    | with_reducible refine E_blk_ne (by decide) ?_
    | with_reducible refine W_ret ?_
    | with_reducible refine R_code ?_
    | with_reducible refine R_blk ?_
    | with_reducible refine R_nil ?_
    | with_reducible refine L_exit ?_
    | with_reducible refine L_ret ?_
    | ((with_reducible apply W_condE); (case hb => exact rfl); (case e1 => simp only [putT, List.set_cons_succ, List.set_cons_zero]; exact rfl); (case e2 => simp only [putT, List.set_cons_succ, List.set_cons_zero]; exact rfl); all_goals (intro hb; first | (exfalso; revert hb; simp; done) | (exfalso; simp at hb; omega) | simp only [beq_iff_eq, beq_eq_false_iff_ne, bne_iff_ne, bne_eq_false_iff_eq, ne_eq, decide_eq_true_eq, decide_eq_false_iff_not, Int.not_lt, Int.not_le] at hb | skip))
    | (with_reducible refine W_reg fun K hK => ?_)
    | (with_reducible refine W_drw mixed (by decide +kernel) fun K hK => ?_)
    | ((with_reducible refine AO_nil (hK _ ?_)); clear hK K)
    | ((with_reducible apply AO_stepE); (case hg => first | exact guardA_none rfl | exact guardA_yes rfl rfl rfl (by with_reducible rfl)); (case hs => simp (maxSteps := 2000000) only [go_sem, true_implies, false_implies, implies_true, reduceCtorEq, and_true, true_and, Nat.reduceAdd, Nat.reduceSub, Nat.reduceMul, Nat.reduceLT, Nat.reduceLeDiff, Nat.reduceEqDiff, Nat.reduceBEq, if_true, if_false, ite_true, ite_false, reduceIte, Bool.false_eq_true, Bool.true_eq_false, Bool.not_true, Bool.not_false, beq_self_eq_true, decide_true, decide_false, Int.reduceNeg, Int.reduceLT, Int.reduceLE, Int.reduceEq, Int.reduceToNat, Int.reducePow, Nat.reducePow, Nat.min_eq_left, Nat.min_eq_right, Int.reduceMul, Int.reduceAdd, Int.reduceSub, Int.reduceBEq, Int.reduceBNe, bne_self_eq_false, beq_true, beq_false]; exact rfl); (case ht => simp only [putT, List.set_cons_succ, List.set_cons_zero]; exact rfl); (case hn => simp only [Nat.reduceAdd]; exact rfl))
    | ((with_reducible apply AO_skipE); (case hg => first | exact guardA_gone rfl rfl rfl | exact guardA_noT rfl rfl rfl (by with_reducible rfl) | exact guardA_noF rfl rfl rfl (by with_reducible rfl)); (case ht => simp only [putT, List.set_cons_succ, List.set_cons_zero]; exact rfl); (case hn => simp only [Nat.reduceAdd]; exact rfl))
    | ((with_reducible apply D_end); (case hi => exact rfl); (case hind => kernel_rfl); (case hn => simp only [Nat.reduceAdd]; exact rfl); (with_reducible refine hK _ ?_); clear hK K)
    | ((with_reducible apply D_stepE); (case hg => first | exact guardA_none rfl | exact guardA_yes rfl rfl rfl (by with_reducible rfl)); (case hs => simp (maxSteps := 2000000) only [go_sem, true_implies, false_implies, implies_true, reduceCtorEq, and_true, true_and, Nat.reduceAdd, Nat.reduceSub, Nat.reduceMul, Nat.reduceLT, Nat.reduceLeDiff, Nat.reduceEqDiff, Nat.reduceBEq, if_true, if_false, ite_true, ite_false, reduceIte, Bool.false_eq_true, Bool.true_eq_false, Bool.not_true, Bool.not_false, beq_self_eq_true, decide_true, decide_false, Int.reduceNeg, Int.reduceLT, Int.reduceLE, Int.reduceEq, Int.reduceToNat, Int.reducePow, Nat.reducePow, Nat.min_eq_left, Nat.min_eq_right, Int.reduceMul, Int.reduceAdd, Int.reduceSub, Int.reduceBEq, Int.reduceBNe, bne_self_eq_false, beq_true, beq_false]; exact rfl); (case ht => simp only [putT, List.set_cons_succ, List.set_cons_zero]; exact rfl); (case hn => simp only [Nat.reduceAdd]; exact rfl); (case hc => exact rfl))
    | ((with_reducible apply D_skipE); (case hg => first | exact guardA_gone rfl rfl rfl | exact guardA_noT rfl rfl rfl (by with_reducible rfl) | exact guardA_noF rfl rfl rfl (by with_reducible rfl)); (case ht => simp only [putT, List.set_cons_succ, List.set_cons_zero]; exact rfl); (case hn => simp only [Nat.reduceAdd]; exact rfl); (case hc => exact rfl))
    | ((with_reducible apply AO_callE); (case hg => first | exact guardA_none rfl | exact guardA_yes rfl rfl rfl (by with_reducible rfl)); (case ho => exact rfl); (case ht => exact rfl); (case hp' => first | exact over_ok _ | exact sign_ok _ | exact i1 | exact i2); (case htm => simp only [putT, List.set_cons_succ, List.set_cons_zero]; exact rfl); (case hn => simp only [Nat.reduceAdd]; exact rfl))
    | ((with_reducible apply D_callE); (case hg => first | exact guardA_none rfl | exact guardA_yes rfl rfl rfl (by with_reducible rfl)); (case ho => exact rfl); (case ht => exact rfl); (case hp' => first | exact over_ok _ | exact sign_ok _ | exact i1 | exact i2); (case htm => simp only [putT, List.set_cons_succ, List.set_cons_zero]; exact rfl); (case hn => simp only [Nat.reduceAdd]; exact rfl); (case hc => exact rfl))
    | ((fail_if_success ((with_reducible apply AO_stepE); (case hg => first | exact guardA_none rfl | exact guardA_yes rfl rfl rfl (by with_reducible rfl)))); (fail_if_success ((with_reducible apply AO_skipE); (case hg => first | exact guardA_gone rfl rfl rfl | exact guardA_noT rfl rfl rfl (by with_reducible rfl) | exact guardA_noF rfl rfl rfl (by with_reducible rfl)))); (with_reducible apply AO_split); (case hg => exact rfl); (case hd => exact rfl); (case hb => exact rfl); (case e1 => simp only [putT, List.set_cons_succ, List.set_cons_zero]; exact rfl); (case e2 => simp only [putT, List.set_cons_succ, List.set_cons_zero]; exact rfl); all_goals intro hg)
    | ((fail_if_success ((with_reducible apply D_stepE); (case hg => first | exact guardA_none rfl | exact guardA_yes rfl rfl rfl (by with_reducible rfl)))); (fail_if_success ((with_reducible apply D_skipE); (case hg => first | exact guardA_gone rfl rfl rfl | exact guardA_noT rfl rfl rfl (by with_reducible rfl) | exact guardA_noF rfl rfl rfl (by with_reducible rfl)))); (with_reducible apply D_split); (case hg => exact rfl); (case hd => exact rfl); (case hb => exact rfl); (case e1 => simp only [putT, List.set_cons_succ, List.set_cons_zero]; exact rfl); (case e2 => simp only [putT, List.set_cons_succ, List.set_cons_zero]; exact rfl); all_goals intro hg)
  all_goals refine retQ_int rfl ?_
  all_goals congr 1
  all_goals simp only [beq_iff_eq, beq_eq_false_iff_ne, ne_eq, decide_eq_true_eq] at *
  all_goals (repeat' split) <;> first | omega | rfl

end Go.Proofs.Ytjidlifijngcpaa
