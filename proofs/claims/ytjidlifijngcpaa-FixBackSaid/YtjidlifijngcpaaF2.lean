/-
  The laws of layer 1 that need no wide division, walked.
-/
import Derived.Test.YtjidlifijngcpaaF1
namespace Go.Proofs.Ytjidlifijngcpaa
open Go Go.AM
set_option maxHeartbeats 1000000
set_option linter.unusedSimpArgs false
attribute [local go_sem] ty3 ty4 ty22 ty39 ty43 eg39 si39 ty28 eg28

theorem awake_ok : PCall Try.prog 9 [] (· = .bool true) := by
  have i1 : PCall Try.prog 10 [.int .u64 4611686018427387903, .int .u64 5] (· = .int .u64 4611686018427387904) := add_ok _ _ (by omega) (by omega)
  have i2 : PCall Try.prog 12 [.int .u64 7, .int .u64 5] (· = .int .u64 2) := sub_ok _ _ (by omega) (by omega)
  have i3 : PCall Try.prog 18 [.int .u64 6, .int .u64 6, .int .u64 9] (· = .int .u64 4) := muldiv_small _ _ _ (by omega) (by omega) (by omega) (by omega)
  have i4 : PCall Try.prog 14 [.int .u64 1, .int .u64 3, .int .u64 2, .int .u64 5] (· = .int .i64 (-1)) := cmp_ok _ _ _ _ (by omega) (by omega) (by omega) (by omega)
  refine PCall_intro (c := Try.f9.body.getD .skip) Try.func9 rfl (by decide +kernel) (by simp [Fz.int_iff, Fz.bool_iff, Fz.agg_iff, Fz.str_iff]) (W_start ?_)
  simp only [Try.f9, go_sem, Nat.reduceAdd, Nat.reduceSub]
  repeat' first
    | with_reducible refine W_seq ?_
    | with_reducible refine W_block ?_
    | with_reducible refine W_skip ?_
    | with_reducible refine N_code ?_
    | with_reducible refine N_blk ?_
    | with_reducible refine W_exit ?_
    | with_reducible refine E_blk ?_
    | with_reducible refine E_code ?_
    | with_reducible refine E_blk_ne (by decide) ?_
    | with_reducible refine W_ret ?_
    | with_reducible refine R_code ?_
    | with_reducible refine R_blk ?_
    | with_reducible refine R_nil ?_
    | with_reducible refine L_exit ?_
    | with_reducible refine L_ret ?_
    | ((with_reducible apply W_condE); (case hb => exact rfl); (case e1 => simp only [putT, List.set_cons_succ, List.set_cons_zero]; exact rfl); (case e2 => simp only [putT, List.set_cons_succ, List.set_cons_zero]; exact rfl); all_goals (intro hb; first | (exfalso; revert hb; simp; done) | (exfalso; simp at hb; omega) | simp only [beq_iff_eq, beq_eq_false_iff_ne, bne_iff_ne, bne_eq_false_iff_eq, ne_eq, decide_eq_true_eq, decide_eq_false_iff_not, Int.not_lt, Int.not_le] at hb | skip))
    | (with_reducible refine W_reg fun K hK => ?_)
    | (with_reducible refine W_drw mixed (by decide +kernel) fun K hK => ?_)
    | ((with_reducible refine AO_nil (hK _ ?_)); clear hK K)
    | ((with_reducible apply AO_stepE); (case hg => first | exact guardA_none rfl | exact guardA_yes rfl rfl rfl (by with_reducible rfl)); (case hs => simp (maxSteps := 2000000) only [go_sem, true_implies, false_implies, implies_true, reduceCtorEq, and_true, true_and, Nat.reduceAdd, Nat.reduceSub, Nat.reduceMul, Nat.reduceLT, Nat.reduceLeDiff, Nat.reduceEqDiff, Nat.reduceBEq, if_true, if_false, ite_true, ite_false, reduceIte, Bool.false_eq_true, Bool.true_eq_false, Bool.not_true, Bool.not_false, beq_self_eq_true, decide_true, decide_false, Int.reduceNeg, Int.reduceLT, Int.reduceLE, Int.reduceEq, Int.reduceToNat, Int.reducePow, Nat.reducePow, Nat.min_eq_left, Nat.min_eq_right, Int.reduceMul, Int.reduceAdd, Int.reduceSub, Int.reduceBEq, Int.reduceBNe, bne_self_eq_false, beq_true, beq_false]; exact rfl); (case ht => simp only [putT, List.set_cons_succ, List.set_cons_zero]; exact rfl); (case hn => simp only [Nat.reduceAdd]; exact rfl))
    | ((with_reducible apply AO_skipE); (case hg => first | exact guardA_gone rfl rfl rfl | exact guardA_noT rfl rfl rfl (by with_reducible rfl) | exact guardA_noF rfl rfl rfl (by with_reducible rfl)); (case ht => simp only [putT, List.set_cons_succ, List.set_cons_zero]; exact rfl); (case hn => simp only [Nat.reduceAdd]; exact rfl))
    | ((with_reducible apply D_end); (case hi => exact rfl); (case hind => kernel_rfl); (case hn => simp only [Nat.reduceAdd]; exact rfl); (with_reducible refine hK _ ?_); clear hK K)
    | ((with_reducible apply D_stepE); (case hg => first | exact guardA_none rfl | exact guardA_yes rfl rfl rfl (by with_reducible rfl)); (case hs => simp (maxSteps := 2000000) only [go_sem, true_implies, false_implies, implies_true, reduceCtorEq, and_true, true_and, Nat.reduceAdd, Nat.reduceSub, Nat.reduceMul, Nat.reduceLT, Nat.reduceLeDiff, Nat.reduceEqDiff, Nat.reduceBEq, if_true, if_false, ite_true, ite_false, reduceIte, Bool.false_eq_true, Bool.true_eq_false, Bool.not_true, Bool.not_false, beq_self_eq_true, decide_true, decide_false, Int.reduceNeg, Int.reduceLT, Int.reduceLE, Int.reduceEq, Int.reduceToNat, Int.reducePow, Nat.reducePow, Nat.min_eq_left, Nat.min_eq_right, Int.reduceMul, Int.reduceAdd, Int.reduceSub, Int.reduceBEq, Int.reduceBNe, bne_self_eq_false, beq_true, beq_false]; exact rfl); (case ht => simp only [putT, List.set_cons_succ, List.set_cons_zero]; exact rfl); (case hn => simp only [Nat.reduceAdd]; exact rfl); (case hc => exact rfl))
    | ((with_reducible apply D_skipE); (case hg => first | exact guardA_gone rfl rfl rfl | exact guardA_noT rfl rfl rfl (by with_reducible rfl) | exact guardA_noF rfl rfl rfl (by with_reducible rfl)); (case ht => simp only [putT, List.set_cons_succ, List.set_cons_zero]; exact rfl); (case hn => simp only [Nat.reduceAdd]; exact rfl); (case hc => exact rfl))
    | ((with_reducible apply AO_callE); (case hg => first | exact guardA_none rfl | exact guardA_yes rfl rfl rfl (by with_reducible rfl)); (case ho => exact rfl); (case ht => exact rfl); (case hp' => first | exact i1 | exact i2 | exact i3 | exact i4); (case htm => simp only [putT, List.set_cons_succ, List.set_cons_zero]; exact rfl); (case hn => simp only [Nat.reduceAdd]; exact rfl))
    | ((with_reducible apply D_callE); (case hg => first | exact guardA_none rfl | exact guardA_yes rfl rfl rfl (by with_reducible rfl)); (case ho => exact rfl); (case ht => exact rfl); (case hp' => first | exact i1 | exact i2 | exact i3 | exact i4); (case htm => simp only [putT, List.set_cons_succ, List.set_cons_zero]; exact rfl); (case hn => simp only [Nat.reduceAdd]; exact rfl); (case hc => exact rfl))
    | ((fail_if_success ((with_reducible apply AO_stepE); (case hg => first | exact guardA_none rfl | exact guardA_yes rfl rfl rfl (by with_reducible rfl)))); (fail_if_success ((with_reducible apply AO_skipE); (case hg => first | exact guardA_gone rfl rfl rfl | exact guardA_noT rfl rfl rfl (by with_reducible rfl) | exact guardA_noF rfl rfl rfl (by with_reducible rfl)))); (with_reducible apply AO_split); (case hg => exact rfl); (case hd => exact rfl); (case hb => exact rfl); (case e1 => simp only [putT, List.set_cons_succ, List.set_cons_zero]; exact rfl); (case e2 => simp only [putT, List.set_cons_succ, List.set_cons_zero]; exact rfl); all_goals intro hg)
    | ((fail_if_success ((with_reducible apply D_stepE); (case hg => first | exact guardA_none rfl | exact guardA_yes rfl rfl rfl (by with_reducible rfl)))); (fail_if_success ((with_reducible apply D_skipE); (case hg => first | exact guardA_gone rfl rfl rfl | exact guardA_noT rfl rfl rfl (by with_reducible rfl) | exact guardA_noF rfl rfl rfl (by with_reducible rfl)))); (with_reducible apply D_split); (case hg => exact rfl); (case hd => exact rfl); (case hb => exact rfl); (case e1 => simp only [putT, List.set_cons_succ, List.set_cons_zero]; exact rfl); (case e2 => simp only [putT, List.set_cons_succ, List.set_cons_zero]; exact rfl); all_goals intro hg)
  all_goals refine retQ_bool rfl ?_
  all_goals rfl

theorem fixSums_ok (a b : Int) (ha : 0 ≤ a ∧ a < 18446744073709551616) (hb0 : 0 ≤ b ∧ b < 18446744073709551616) : PCall Try.prog 3 [.int .u64 a, .int .u64 b] (· = .bool true) := by
  refine PCall_intro (c := Try.f3.body.getD .skip) Try.func3 rfl (by decide +kernel) (by simp [Fz.int_iff, Fz.bool_iff, Fz.agg_iff, Fz.str_iff]) (W_start ?_)
  simp only [Try.f3, go_sem, Nat.reduceAdd, Nat.reduceSub]
  repeat' first
    | with_reducible refine W_seq ?_
    | with_reducible refine W_block ?_
    | with_reducible refine W_skip ?_
    | with_reducible refine N_code ?_
    | with_reducible refine N_blk ?_
    | with_reducible refine W_exit ?_
    | with_reducible refine E_blk ?_
    | with_reducible refine E_code ?_
    | with_reducible refine E_blk_ne (by decide) ?_
    | with_reducible refine W_ret ?_
    | with_reducible refine R_code ?_
    | with_reducible refine R_blk ?_
    | with_reducible refine R_nil ?_
    | with_reducible refine L_exit ?_
    | with_reducible refine L_ret ?_
    | ((with_reducible apply W_condE); (case hb => exact rfl); (case e1 => simp only [putT, List.set_cons_succ, List.set_cons_zero]; exact rfl); (case e2 => simp only [putT, List.set_cons_succ, List.set_cons_zero]; exact rfl); all_goals (intro hb; first | (exfalso; revert hb; simp; done) | (exfalso; simp at hb; omega) | simp only [beq_iff_eq, beq_eq_false_iff_ne, bne_iff_ne, bne_eq_false_iff_eq, ne_eq, decide_eq_true_eq, decide_eq_false_iff_not, Int.not_lt, Int.not_le] at hb | skip))
    | (with_reducible refine W_reg fun K hK => ?_)
    | (with_reducible refine W_drw mixed (by decide +kernel) fun K hK => ?_)
    | ((with_reducible refine AO_nil (hK _ ?_)); clear hK K)
    | ((with_reducible apply AO_stepE); (case hg => first | exact guardA_none rfl | exact guardA_yes rfl rfl rfl (by with_reducible rfl)); (case hs => simp (maxSteps := 2000000) only [go_sem, true_implies, false_implies, implies_true, reduceCtorEq, and_true, true_and, Nat.reduceAdd, Nat.reduceSub, Nat.reduceMul, Nat.reduceLT, Nat.reduceLeDiff, Nat.reduceEqDiff, Nat.reduceBEq, if_true, if_false, ite_true, ite_false, reduceIte, Bool.false_eq_true, Bool.true_eq_false, Bool.not_true, Bool.not_false, beq_self_eq_true, decide_true, decide_false, Int.reduceNeg, Int.reduceLT, Int.reduceLE, Int.reduceEq, Int.reduceToNat, Int.reducePow, Nat.reducePow, Nat.min_eq_left, Nat.min_eq_right, Int.reduceMul, Int.reduceAdd, Int.reduceSub, Int.reduceBEq, Int.reduceBNe, bne_self_eq_false, beq_true, beq_false]; exact rfl); (case ht => simp only [putT, List.set_cons_succ, List.set_cons_zero]; exact rfl); (case hn => simp only [Nat.reduceAdd]; exact rfl))
    | ((with_reducible apply AO_skipE); (case hg => first | exact guardA_gone rfl rfl rfl | exact guardA_noT rfl rfl rfl (by with_reducible rfl) | exact guardA_noF rfl rfl rfl (by with_reducible rfl)); (case ht => simp only [putT, List.set_cons_succ, List.set_cons_zero]; exact rfl); (case hn => simp only [Nat.reduceAdd]; exact rfl))
    | ((with_reducible apply D_end); (case hi => exact rfl); (case hind => kernel_rfl); (case hn => simp only [Nat.reduceAdd]; exact rfl); (with_reducible refine hK _ ?_); clear hK K)
    | ((with_reducible apply D_stepE); (case hg => first | exact guardA_none rfl | exact guardA_yes rfl rfl rfl (by with_reducible rfl)); (case hs => simp (maxSteps := 2000000) only [go_sem, true_implies, false_implies, implies_true, reduceCtorEq, and_true, true_and, Nat.reduceAdd, Nat.reduceSub, Nat.reduceMul, Nat.reduceLT, Nat.reduceLeDiff, Nat.reduceEqDiff, Nat.reduceBEq, if_true, if_false, ite_true, ite_false, reduceIte, Bool.false_eq_true, Bool.true_eq_false, Bool.not_true, Bool.not_false, beq_self_eq_true, decide_true, decide_false, Int.reduceNeg, Int.reduceLT, Int.reduceLE, Int.reduceEq, Int.reduceToNat, Int.reducePow, Nat.reducePow, Nat.min_eq_left, Nat.min_eq_right, Int.reduceMul, Int.reduceAdd, Int.reduceSub, Int.reduceBEq, Int.reduceBNe, bne_self_eq_false, beq_true, beq_false]; exact rfl); (case ht => simp only [putT, List.set_cons_succ, List.set_cons_zero]; exact rfl); (case hn => simp only [Nat.reduceAdd]; exact rfl); (case hc => exact rfl))
    | ((with_reducible apply D_skipE); (case hg => first | exact guardA_gone rfl rfl rfl | exact guardA_noT rfl rfl rfl (by with_reducible rfl) | exact guardA_noF rfl rfl rfl (by with_reducible rfl)); (case ht => simp only [putT, List.set_cons_succ, List.set_cons_zero]; exact rfl); (case hn => simp only [Nat.reduceAdd]; exact rfl); (case hc => exact rfl))
    | ((with_reducible apply AO_callE); (case hg => first | exact guardA_none rfl | exact guardA_yes rfl rfl rfl (by with_reducible rfl)); (case ho => exact rfl); (case ht => exact rfl); (case hp' => first | exact awake_ok | exact add_ok _ _ (by omega) (by omega) | exact sub_ok _ _ (by omega) (by omega) | exact radd_ok _ _ (by omega) (by omega) | exact rsub_ok _ _ (by omega) (by omega)); (case htm => simp only [putT, List.set_cons_succ, List.set_cons_zero]; exact rfl); (case hn => simp only [Nat.reduceAdd]; exact rfl))
    | ((with_reducible apply D_callE); (case hg => first | exact guardA_none rfl | exact guardA_yes rfl rfl rfl (by with_reducible rfl)); (case ho => exact rfl); (case ht => exact rfl); (case hp' => first | exact awake_ok | exact add_ok _ _ (by omega) (by omega) | exact sub_ok _ _ (by omega) (by omega) | exact radd_ok _ _ (by omega) (by omega) | exact rsub_ok _ _ (by omega) (by omega)); (case htm => simp only [putT, List.set_cons_succ, List.set_cons_zero]; exact rfl); (case hn => simp only [Nat.reduceAdd]; exact rfl); (case hc => exact rfl))
    | ((fail_if_success ((with_reducible apply AO_stepE); (case hg => first | exact guardA_none rfl | exact guardA_yes rfl rfl rfl (by with_reducible rfl)))); (fail_if_success ((with_reducible apply AO_skipE); (case hg => first | exact guardA_gone rfl rfl rfl | exact guardA_noT rfl rfl rfl (by with_reducible rfl) | exact guardA_noF rfl rfl rfl (by with_reducible rfl)))); (with_reducible apply AO_split); (case hg => exact rfl); (case hd => exact rfl); (case hb => exact rfl); (case e1 => simp only [putT, List.set_cons_succ, List.set_cons_zero]; exact rfl); (case e2 => simp only [putT, List.set_cons_succ, List.set_cons_zero]; exact rfl); all_goals intro hg)
    | ((fail_if_success ((with_reducible apply D_stepE); (case hg => first | exact guardA_none rfl | exact guardA_yes rfl rfl rfl (by with_reducible rfl)))); (fail_if_success ((with_reducible apply D_skipE); (case hg => first | exact guardA_gone rfl rfl rfl | exact guardA_noT rfl rfl rfl (by with_reducible rfl) | exact guardA_noF rfl rfl rfl (by with_reducible rfl)))); (with_reducible apply D_split); (case hg => exact rfl); (case hd => exact rfl); (case hb => exact rfl); (case e1 => simp only [putT, List.set_cons_succ, List.set_cons_zero]; exact rfl); (case e2 => simp only [putT, List.set_cons_succ, List.set_cons_zero]; exact rfl); all_goals intro hg)
  all_goals refine retQ_bool rfl ?_
  all_goals rfl

end Go.Proofs.Ytjidlifijngcpaa
