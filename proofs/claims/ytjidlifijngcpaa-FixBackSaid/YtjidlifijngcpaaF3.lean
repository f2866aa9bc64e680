/-
  Numbers of 128 bits by doubling, walked.
-/
import Derived.Test.YtjidlifijngcpaaF2
namespace Go.Proofs.Ytjidlifijngcpaa
open Go Go.AM
set_option maxHeartbeats 1000000
set_option linter.unusedSimpArgs false
attribute [local go_sem] ty3 ty4 ty22 ty39 ty43 eg39 si39 ty28 eg28

abbrev B64 : Int := 18446744073709551616

/-- A number of 128 bits. -/
def wd (n : Int) : AVal := .agg [.int .u64 (n / 18446744073709551616), .int .u64 (n % 18446744073709551616)]

theorem plus_ok (n m h l : Int) (hn : 0 ≤ n) (hm : 0 ≤ m) (hb : n + m < 18446744073709551616 * 18446744073709551616) (hh : h = m / 18446744073709551616) (hl : l = m % 18446744073709551616) :
    PCall Try.prog 29 [.agg [.int .u64 (n / 18446744073709551616), .int .u64 (n % 18446744073709551616)], .agg [.int .u64 h, .int .u64 l]] (· = .agg [.int .u64 ((n + m) / 18446744073709551616), .int .u64 ((n + m) % 18446744073709551616)]) := by
  have e1 : IntKind.u64.wrap (n % 18446744073709551616 + l) = (n + m) % 18446744073709551616 := by rw [IntKind.wrap_u64]; omega
  have e2 : IntKind.u64.wrap (n / 18446744073709551616 + h) = n / 18446744073709551616 + h := wrap_id (by omega) (by omega)
  refine PCall_intro (c := Try.f29.body.getD .skip) Try.func29 rfl (by decide +kernel) (by simp [Fz.int_iff, Fz.bool_iff, Fz.agg_iff, Fz.str_iff]) (W_start ?_)
  simp only [Try.f29, go_sem, Nat.reduceAdd, Nat.reduceSub]
  repeat' first
    | with_reducible refine W_seq ?_
    | with_reducible refine W_block ?_
    | with_reducible refine W_skip ?_
    | with_reducible refine N_code ?_
    | with_reducible refine N_blk ?_
    | with_reducible refine W_exit ?_
    | with_reducible refine E_blk ?_
    | with_reducible refine E_code ?_
    | with_reducible refine E_blk_ne (by decide) ?_
    | with_reducible refine W_ret ?_
    | with_reducible refine R_code ?_
    | with_reducible refine R_blk ?_
    | with_reducible refine R_nil ?_
    | with_reducible refine L_exit ?_
    | with_reducible refine L_ret ?_
    | ((with_reducible apply W_condE); (case hb => exact rfl); (case e1 => simp only [putT, List.set_cons_succ, List.set_cons_zero]; exact rfl); (case e2 => simp only [putT, List.set_cons_succ, List.set_cons_zero]; exact rfl); all_goals (intro hb; first | (exfalso; revert hb; simp; done) | (exfalso; simp at hb; omega) | simp only [beq_iff_eq, beq_eq_false_iff_ne, bne_iff_ne, bne_eq_false_iff_eq, ne_eq, decide_eq_true_eq, decide_eq_false_iff_not, Int.not_lt, Int.not_le] at hb | skip))
    | (with_reducible refine W_reg fun K hK => ?_)
    | (with_reducible refine W_drw mixed (by decide +kernel) fun K hK => ?_)
    | ((with_reducible refine AO_nil (hK _ ?_)); clear hK K)
    | ((with_reducible apply AO_stepE); (case hg => first | exact guardA_none rfl | exact guardA_yes rfl rfl rfl (by with_reducible rfl)); (case hs => simp (maxSteps := 2000000) only [go_sem, true_implies, false_implies, implies_true, reduceCtorEq, and_true, true_and, Nat.reduceAdd, Nat.reduceSub, Nat.reduceMul, Nat.reduceLT, Nat.reduceLeDiff, Nat.reduceEqDiff, Nat.reduceBEq, if_true, if_false, ite_true, ite_false, reduceIte, Bool.false_eq_true, Bool.true_eq_false, Bool.not_true, Bool.not_false, beq_self_eq_true, decide_true, decide_false, Int.reduceNeg, Int.reduceLT, Int.reduceLE, Int.reduceEq, Int.reduceToNat, Int.reducePow, Nat.reducePow, Nat.min_eq_left, Nat.min_eq_right, Int.reduceMul, Int.reduceAdd, Int.reduceSub, Int.reduceBEq, Int.reduceBNe, bne_self_eq_false, beq_true, beq_false, e1, e2]; exact rfl); (case ht => simp only [putT, List.set_cons_succ, List.set_cons_zero]; exact rfl); (case hn => first | (simp only [Nat.reduceAdd]; exact rfl) | exact rfl))
    | ((with_reducible apply AO_skipE); (case hg => first | exact guardA_gone rfl rfl rfl | exact guardA_noT rfl rfl rfl (by with_reducible rfl) | exact guardA_noF rfl rfl rfl (by with_reducible rfl)); (case ht => simp only [putT, List.set_cons_succ, List.set_cons_zero]; exact rfl); (case hn => first | (simp only [Nat.reduceAdd]; exact rfl) | exact rfl))
    | ((with_reducible apply D_end); (case hi => exact rfl); (case hind => kernel_rfl); (case hn => first | (simp only [Nat.reduceAdd]; exact rfl) | exact rfl); (with_reducible refine hK _ ?_); clear hK K)
    | ((with_reducible apply D_stepE); (case hg => first | exact guardA_none rfl | exact guardA_yes rfl rfl rfl (by with_reducible rfl)); (case hs => simp (maxSteps := 2000000) only [go_sem, true_implies, false_implies, implies_true, reduceCtorEq, and_true, true_and, Nat.reduceAdd, Nat.reduceSub, Nat.reduceMul, Nat.reduceLT, Nat.reduceLeDiff, Nat.reduceEqDiff, Nat.reduceBEq, if_true, if_false, ite_true, ite_false, reduceIte, Bool.false_eq_true, Bool.true_eq_false, Bool.not_true, Bool.not_false, beq_self_eq_true, decide_true, decide_false, Int.reduceNeg, Int.reduceLT, Int.reduceLE, Int.reduceEq, Int.reduceToNat, Int.reducePow, Nat.reducePow, Nat.min_eq_left, Nat.min_eq_right, Int.reduceMul, Int.reduceAdd, Int.reduceSub, Int.reduceBEq, Int.reduceBNe, bne_self_eq_false, beq_true, beq_false, e1, e2]; exact rfl); (case ht => simp only [putT, List.set_cons_succ, List.set_cons_zero]; exact rfl); (case hn => first | (simp only [Nat.reduceAdd]; exact rfl) | exact rfl); (case hc => exact rfl))
    | ((with_reducible apply D_skipE); (case hg => first | exact guardA_gone rfl rfl rfl | exact guardA_noT rfl rfl rfl (by with_reducible rfl) | exact guardA_noF rfl rfl rfl (by with_reducible rfl)); (case ht => simp only [putT, List.set_cons_succ, List.set_cons_zero]; exact rfl); (case hn => first | (simp only [Nat.reduceAdd]; exact rfl) | exact rfl); (case hc => exact rfl))
    | ((fail_if_success ((with_reducible apply AO_stepE); (case hg => first | exact guardA_none rfl | exact guardA_yes rfl rfl rfl (by with_reducible rfl)))); (fail_if_success ((with_reducible apply AO_skipE); (case hg => first | exact guardA_gone rfl rfl rfl | exact guardA_noT rfl rfl rfl (by with_reducible rfl) | exact guardA_noF rfl rfl rfl (by with_reducible rfl)))); (with_reducible apply AO_split); (case hg => exact rfl); (case hd => exact rfl); (case hb => exact rfl); (case e1 => simp only [putT, List.set_cons_succ, List.set_cons_zero]; exact rfl); (case e2 => simp only [putT, List.set_cons_succ, List.set_cons_zero]; exact rfl); all_goals intro hg)
    | ((fail_if_success ((with_reducible apply D_stepE); (case hg => first | exact guardA_none rfl | exact guardA_yes rfl rfl rfl (by with_reducible rfl)))); (fail_if_success ((with_reducible apply D_skipE); (case hg => first | exact guardA_gone rfl rfl rfl | exact guardA_noT rfl rfl rfl (by with_reducible rfl) | exact guardA_noF rfl rfl rfl (by with_reducible rfl)))); (with_reducible apply D_split); (case hg => exact rfl); (case hd => exact rfl); (case hb => exact rfl); (case e1 => simp only [putT, List.set_cons_succ, List.set_cons_zero]; exact rfl); (case e2 => simp only [putT, List.set_cons_succ, List.set_cons_zero]; exact rfl); all_goals intro hg)
  · refine retQ_of (xs := [.agg [.int .u64 _, .int .u64 _]]) rfl (by simp [packA, Fz.agg_iff, Fz.int_iff]) ?_
    simp only [packA]
    have e3 : IntKind.u64.wrap (n / 18446744073709551616 + h + 1) = (n + m) / 18446744073709551616 := by rw [wrap_id (by omega) (by omega)]; omega
    rw [e3]
  · refine retQ_of (xs := [.agg [.int .u64 _, .int .u64 _]]) rfl (by simp [packA, Fz.agg_iff, Fz.int_iff]) ?_
    simp only [packA]
    have e3 : n / 18446744073709551616 + h = (n + m) / 18446744073709551616 := by omega
    rw [e3]

theorem less_ok (n m : Int) : PCall Try.prog 25 [.agg [.int .u64 (n / 18446744073709551616), .int .u64 (n % 18446744073709551616)], .agg [.int .u64 (m / 18446744073709551616), .int .u64 (m % 18446744073709551616)]] (· = .bool (decide (n < m))) := by
  refine PCall_intro (c := Try.f25.body.getD .skip) Try.func25 rfl (by decide +kernel) (by simp [Fz.int_iff, Fz.bool_iff, Fz.agg_iff, Fz.str_iff]) (W_start ?_)
  simp only [Try.f25, go_sem, Nat.reduceAdd, Nat.reduceSub]
  repeat' first
    | with_reducible refine W_seq ?_
    | with_reducible refine W_block ?_
    | with_reducible refine W_skip ?_
    | with_reducible refine N_code ?_
    | with_reducible refine N_blk ?_
    | with_reducible refine W_exit ?_
    | with_reducible refine E_blk ?_
    | with_reducible refine E_code ?_
    | with_reducible refine E_blk_ne (by decide) ?_
    | with_reducible refine W_ret ?_
    | with_reducible refine R_code ?_
    | with_reducible refine R_blk ?_
    | with_reducible refine R_nil ?_
    | with_reducible refine L_exit ?_
    | with_reducible refine L_ret ?_
    | ((with_reducible apply W_condE); (case hb => exact rfl); (case e1 => simp only [putT, List.set_cons_succ, List.set_cons_zero]; exact rfl); (case e2 => simp only [putT, List.set_cons_succ, List.set_cons_zero]; exact rfl); all_goals (intro hb; first | (exfalso; revert hb; simp; done) | (exfalso; simp at hb; omega) | simp only [beq_iff_eq, beq_eq_false_iff_ne, bne_iff_ne, bne_eq_false_iff_eq, ne_eq, decide_eq_true_eq, decide_eq_false_iff_not, Int.not_lt, Int.not_le] at hb | skip))
    | (with_reducible refine W_reg fun K hK => ?_)
    | (with_reducible refine W_drw mixed (by decide +kernel) fun K hK => ?_)
    | ((with_reducible refine AO_nil (hK _ ?_)); clear hK K)
    | ((with_reducible apply AO_stepE); (case hg => first | exact guardA_none rfl | exact guardA_yes rfl rfl rfl (by with_reducible rfl)); (case hs => simp (maxSteps := 2000000) only [go_sem, true_implies, false_implies, implies_true, reduceCtorEq, and_true, true_and, Nat.reduceAdd, Nat.reduceSub, Nat.reduceMul, Nat.reduceLT, Nat.reduceLeDiff, Nat.reduceEqDiff, Nat.reduceBEq, if_true, if_false, ite_true, ite_false, reduceIte, Bool.false_eq_true, Bool.true_eq_false, Bool.not_true, Bool.not_false, beq_self_eq_true, decide_true, decide_false, Int.reduceNeg, Int.reduceLT, Int.reduceLE, Int.reduceEq, Int.reduceToNat, Int.reducePow, Nat.reducePow, Nat.min_eq_left, Nat.min_eq_right, Int.reduceMul, Int.reduceAdd, Int.reduceSub, Int.reduceBEq, Int.reduceBNe, bne_self_eq_false, beq_true, beq_false]; exact rfl); (case ht => simp only [putT, List.set_cons_succ, List.set_cons_zero]; exact rfl); (case hn => first | (simp only [Nat.reduceAdd]; exact rfl) | exact rfl))
    | ((with_reducible apply AO_skipE); (case hg => first | exact guardA_gone rfl rfl rfl | exact guardA_noT rfl rfl rfl (by with_reducible rfl) | exact guardA_noF rfl rfl rfl (by with_reducible rfl)); (case ht => simp only [putT, List.set_cons_succ, List.set_cons_zero]; exact rfl); (case hn => first | (simp only [Nat.reduceAdd]; exact rfl) | exact rfl))
    | ((with_reducible apply D_end); (case hi => exact rfl); (case hind => kernel_rfl); (case hn => first | (simp only [Nat.reduceAdd]; exact rfl) | exact rfl); (with_reducible refine hK _ ?_); clear hK K)
    | ((with_reducible apply D_stepE); (case hg => first | exact guardA_none rfl | exact guardA_yes rfl rfl rfl (by with_reducible rfl)); (case hs => simp (maxSteps := 2000000) only [go_sem, true_implies, false_implies, implies_true, reduceCtorEq, and_true, true_and, Nat.reduceAdd, Nat.reduceSub, Nat.reduceMul, Nat.reduceLT, Nat.reduceLeDiff, Nat.reduceEqDiff, Nat.reduceBEq, if_true, if_false, ite_true, ite_false, reduceIte, Bool.false_eq_true, Bool.true_eq_false, Bool.not_true, Bool.not_false, beq_self_eq_true, decide_true, decide_false, Int.reduceNeg, Int.reduceLT, Int.reduceLE, Int.reduceEq, Int.reduceToNat, Int.reducePow, Nat.reducePow, Nat.min_eq_left, Nat.min_eq_right, Int.reduceMul, Int.reduceAdd, Int.reduceSub, Int.reduceBEq, Int.reduceBNe, bne_self_eq_false, beq_true, beq_false]; exact rfl); (case ht => simp only [putT, List.set_cons_succ, List.set_cons_zero]; exact rfl); (case hn => first | (simp only [Nat.reduceAdd]; exact rfl) | exact rfl); (case hc => exact rfl))
    | ((with_reducible apply D_skipE); (case hg => first | exact guardA_gone rfl rfl rfl | exact guardA_noT rfl rfl rfl (by with_reducible rfl) | exact guardA_noF rfl rfl rfl (by with_reducible rfl)); (case ht => simp only [putT, List.set_cons_succ, List.set_cons_zero]; exact rfl); (case hn => first | (simp only [Nat.reduceAdd]; exact rfl) | exact rfl); (case hc => exact rfl))
    | ((fail_if_success ((with_reducible apply AO_stepE); (case hg => first | exact guardA_none rfl | exact guardA_yes rfl rfl rfl (by with_reducible rfl)))); (fail_if_success ((with_reducible apply AO_skipE); (case hg => first | exact guardA_gone rfl rfl rfl | exact guardA_noT rfl rfl rfl (by with_reducible rfl) | exact guardA_noF rfl rfl rfl (by with_reducible rfl)))); (with_reducible apply AO_split); (case hg => exact rfl); (case hd => exact rfl); (case hb => exact rfl); (case e1 => simp only [putT, List.set_cons_succ, List.set_cons_zero]; exact rfl); (case e2 => simp only [putT, List.set_cons_succ, List.set_cons_zero]; exact rfl); all_goals intro hg)
    | ((fail_if_success ((with_reducible apply D_stepE); (case hg => first | exact guardA_none rfl | exact guardA_yes rfl rfl rfl (by with_reducible rfl)))); (fail_if_success ((with_reducible apply D_skipE); (case hg => first | exact guardA_gone rfl rfl rfl | exact guardA_noT rfl rfl rfl (by with_reducible rfl) | exact guardA_noF rfl rfl rfl (by with_reducible rfl)))); (with_reducible apply D_split); (case hg => exact rfl); (case hd => exact rfl); (case hb => exact rfl); (case e1 => simp only [putT, List.set_cons_succ, List.set_cons_zero]; exact rfl); (case e2 => simp only [putT, List.set_cons_succ, List.set_cons_zero]; exact rfl); all_goals intro hg)
  all_goals refine retQ_bool rfl ?_
  all_goals congr 1
  all_goals simp only [decide_eq_true_eq, decide_eq_false_iff_not, beq_iff_eq, beq_eq_false_iff_ne, ne_eq] at *
  all_goals first | (rw [decide_eq_decide]; omega) | (symm; rw [decide_eq_true_eq]; omega) | (symm; rw [decide_eq_false_iff_not]; omega)

theorem capped_ok (n : Int) (hn : 0 ≤ n) : PCall Try.prog 27 [.agg [.int .u64 (n / 18446744073709551616), .int .u64 (n % 18446744073709551616)]] (· = .int .u64 (min n 4611686018427387904)) := by
  refine PCall_intro (c := Try.f27.body.getD .skip) Try.func27 rfl (by decide +kernel) (by simp [Fz.int_iff, Fz.bool_iff, Fz.agg_iff, Fz.str_iff]) (W_start ?_)
  simp only [Try.f27, go_sem, Nat.reduceAdd, Nat.reduceSub]
  repeat' first
    | with_reducible refine W_seq ?_
    | with_reducible refine W_block ?_
    | with_reducible refine W_skip ?_
    | with_reducible refine N_code ?_
    | with_reducible refine N_blk ?_
    | with_reducible refine W_exit ?_
    | with_reducible refine E_blk ?_
    | with_reducible refine E_code ?_
    | with_reducible refine E_blk_ne (by decide) ?_
    | with_reducible refine W_ret ?_
    | with_reducible refine R_code ?_
    | with_reducible refine R_blk ?_
    | with_reducible refine R_nil ?_
    | with_reducible refine L_exit ?_
    | with_reducible refine L_ret ?_
    | ((with_reducible apply W_condE); (case hb => exact rfl); (case e1 => simp only [putT, List.set_cons_succ, List.set_cons_zero]; exact rfl); (case e2 => simp only [putT, List.set_cons_succ, List.set_cons_zero]; exact rfl); all_goals (intro hb; first | (exfalso; revert hb; simp; done) | (exfalso; simp at hb; omega) | simp only [beq_iff_eq, beq_eq_false_iff_ne, bne_iff_ne, bne_eq_false_iff_eq, ne_eq, decide_eq_true_eq, decide_eq_false_iff_not, Int.not_lt, Int.not_le] at hb | skip))
    | (with_reducible refine W_reg fun K hK => ?_)
    | (with_reducible refine W_drw mixed (by decide +kernel) fun K hK => ?_)
    | ((with_reducible refine AO_nil (hK _ ?_)); clear hK K)
    | ((with_reducible apply AO_stepE); (case hg => first | exact guardA_none rfl | exact guardA_yes rfl rfl rfl (by with_reducible rfl)); (case hs => simp (maxSteps := 2000000) only [go_sem, true_implies, false_implies, implies_true, reduceCtorEq, and_true, true_and, Nat.reduceAdd, Nat.reduceSub, Nat.reduceMul, Nat.reduceLT, Nat.reduceLeDiff, Nat.reduceEqDiff, Nat.reduceBEq, if_true, if_false, ite_true, ite_false, reduceIte, Bool.false_eq_true, Bool.true_eq_false, Bool.not_true, Bool.not_false, beq_self_eq_true, decide_true, decide_false, Int.reduceNeg, Int.reduceLT, Int.reduceLE, Int.reduceEq, Int.reduceToNat, Int.reducePow, Nat.reducePow, Nat.min_eq_left, Nat.min_eq_right, Int.reduceMul, Int.reduceAdd, Int.reduceSub, Int.reduceBEq, Int.reduceBNe, bne_self_eq_false, beq_true, beq_false]; exact rfl); (case ht => simp only [putT, List.set_cons_succ, List.set_cons_zero]; exact rfl); (case hn => first | (simp only [Nat.reduceAdd]; exact rfl) | exact rfl))
    | ((with_reducible apply AO_skipE); (case hg => first | exact guardA_gone rfl rfl rfl | exact guardA_noT rfl rfl rfl (by with_reducible rfl) | exact guardA_noF rfl rfl rfl (by with_reducible rfl)); (case ht => simp only [putT, List.set_cons_succ, List.set_cons_zero]; exact rfl); (case hn => first | (simp only [Nat.reduceAdd]; exact rfl) | exact rfl))
    | ((with_reducible apply D_end); (case hi => exact rfl); (case hind => kernel_rfl); (case hn => first | (simp only [Nat.reduceAdd]; exact rfl) | exact rfl); (with_reducible refine hK _ ?_); clear hK K)
    | ((with_reducible apply D_stepE); (case hg => first | exact guardA_none rfl | exact guardA_yes rfl rfl rfl (by with_reducible rfl)); (case hs => simp (maxSteps := 2000000) only [go_sem, true_implies, false_implies, implies_true, reduceCtorEq, and_true, true_and, Nat.reduceAdd, Nat.reduceSub, Nat.reduceMul, Nat.reduceLT, Nat.reduceLeDiff, Nat.reduceEqDiff, Nat.reduceBEq, if_true, if_false, ite_true, ite_false, reduceIte, Bool.false_eq_true, Bool.true_eq_false, Bool.not_true, Bool.not_false, beq_self_eq_true, decide_true, decide_false, Int.reduceNeg, Int.reduceLT, Int.reduceLE, Int.reduceEq, Int.reduceToNat, Int.reducePow, Nat.reducePow, Nat.min_eq_left, Nat.min_eq_right, Int.reduceMul, Int.reduceAdd, Int.reduceSub, Int.reduceBEq, Int.reduceBNe, bne_self_eq_false, beq_true, beq_false]; exact rfl); (case ht => simp only [putT, List.set_cons_succ, List.set_cons_zero]; exact rfl); (case hn => first | (simp only [Nat.reduceAdd]; exact rfl) | exact rfl); (case hc => exact rfl))
    | ((with_reducible apply D_skipE); (case hg => first | exact guardA_gone rfl rfl rfl | exact guardA_noT rfl rfl rfl (by with_reducible rfl) | exact guardA_noF rfl rfl rfl (by with_reducible rfl)); (case ht => simp only [putT, List.set_cons_succ, List.set_cons_zero]; exact rfl); (case hn => first | (simp only [Nat.reduceAdd]; exact rfl) | exact rfl); (case hc => exact rfl))
    | ((fail_if_success ((with_reducible apply AO_stepE); (case hg => first | exact guardA_none rfl | exact guardA_yes rfl rfl rfl (by with_reducible rfl)))); (fail_if_success ((with_reducible apply AO_skipE); (case hg => first | exact guardA_gone rfl rfl rfl | exact guardA_noT rfl rfl rfl (by with_reducible rfl) | exact guardA_noF rfl rfl rfl (by with_reducible rfl)))); (with_reducible apply AO_split); (case hg => exact rfl); (case hd => exact rfl); (case hb => exact rfl); (case e1 => simp only [putT, List.set_cons_succ, List.set_cons_zero]; exact rfl); (case e2 => simp only [putT, List.set_cons_succ, List.set_cons_zero]; exact rfl); all_goals intro hg)
    | ((fail_if_success ((with_reducible apply D_stepE); (case hg => first | exact guardA_none rfl | exact guardA_yes rfl rfl rfl (by with_reducible rfl)))); (fail_if_success ((with_reducible apply D_skipE); (case hg => first | exact guardA_gone rfl rfl rfl | exact guardA_noT rfl rfl rfl (by with_reducible rfl) | exact guardA_noF rfl rfl rfl (by with_reducible rfl)))); (with_reducible apply D_split); (case hg => exact rfl); (case hd => exact rfl); (case hb => exact rfl); (case e1 => simp only [putT, List.set_cons_succ, List.set_cons_zero]; exact rfl); (case e2 => simp only [putT, List.set_cons_succ, List.set_cons_zero]; exact rfl); all_goals intro hg)
  all_goals refine retQ_int rfl ?_
  all_goals congr 1
  all_goals simp only [decide_eq_true_eq, decide_eq_false_iff_not] at *
  all_goals omega

theorem half_step (b : Int) (k : Nat) (hb0 : 0 ≤ b) : b / 2 ^ k = 2 * (b / 2 ^ (k + 1)) + (b / 2 ^ k) % 2 := by
  have h1 : b / 2 ^ (k + 1) = b / 2 ^ k / 2 := by
    rw [Int.pow_succ, Int.ediv_ediv_of_nonneg (Int.pow_nonneg (by omega))]
  rw [h1]
  omega

set_option maxRecDepth 4000 in
theorem times_ok (a b : Int) (ha : 0 ≤ a ∧ a < 18446744073709551616) (hb0 : 0 ≤ b ∧ b < 18446744073709551616) :
    PCall Try.prog 26 [.int .u64 a, .int .u64 b] (· = .agg [.int .u64 (a * b / 18446744073709551616), .int .u64 (a * b % 18446744073709551616)]) := by
  refine PCall_intro (c := Try.f26.body.getD .skip) Try.func26 rfl (by decide +kernel) (by simp [Fz.int_iff, Fz.bool_iff, Fz.agg_iff, Fz.str_iff]) (W_start ?_)
  simp only [Try.f26, go_sem, Nat.reduceAdd, Nat.reduceSub]
  repeat' first
    | with_reducible refine W_seq ?_
    | with_reducible refine W_block ?_
    | with_reducible refine W_skip ?_
    | with_reducible refine N_code ?_
    | with_reducible refine N_blk ?_
    | with_reducible refine W_exit ?_
    | with_reducible refine E_blk ?_
    | with_reducible refine E_code ?_
    | with_reducible refine E_blk_ne (by decide) ?_
    | with_reducible refine W_ret ?_
    | with_reducible refine R_code ?_
    | with_reducible refine R_blk ?_
    | with_reducible refine R_nil ?_
    | with_reducible refine L_exit ?_
    | with_reducible refine L_ret ?_
    | ((with_reducible apply W_condE); (case hb => exact rfl); (case e1 => simp only [putT, List.set_cons_succ, List.set_cons_zero]; exact rfl); (case e2 => simp only [putT, List.set_cons_succ, List.set_cons_zero]; exact rfl); all_goals (intro hb; first | (exfalso; revert hb; simp; done) | (exfalso; simp at hb; omega) | simp only [beq_iff_eq, beq_eq_false_iff_ne, bne_iff_ne, bne_eq_false_iff_eq, ne_eq, decide_eq_true_eq, decide_eq_false_iff_not, Int.not_lt, Int.not_le] at hb | skip))
    | (with_reducible refine W_reg fun K hK => ?_)
    | (with_reducible refine W_drw mixed (by decide +kernel) fun K hK => ?_)
    | ((with_reducible refine AO_nil (hK _ ?_)); clear hK K)
    | ((with_reducible apply AO_stepE); (case hg => first | exact guardA_none rfl | exact guardA_yes rfl rfl rfl (by with_reducible rfl)); (case hs => simp (maxSteps := 2000000) only [go_sem, true_implies, false_implies, implies_true, reduceCtorEq, and_true, true_and, Nat.reduceAdd, Nat.reduceSub, Nat.reduceMul, Nat.reduceLT, Nat.reduceLeDiff, Nat.reduceEqDiff, Nat.reduceBEq, if_true, if_false, ite_true, ite_false, reduceIte, Bool.false_eq_true, Bool.true_eq_false, Bool.not_true, Bool.not_false, beq_self_eq_true, decide_true, decide_false, Int.reduceNeg, Int.reduceLT, Int.reduceLE, Int.reduceEq, Int.reduceToNat, Int.reducePow, Nat.reducePow, Nat.min_eq_left, Nat.min_eq_right, Int.reduceMul, Int.reduceAdd, Int.reduceSub, Int.reduceBEq, Int.reduceBNe, bne_self_eq_false, beq_true, beq_false]; exact rfl); (case ht => simp only [putT, List.set_cons_succ, List.set_cons_zero]; exact rfl); (case hn => first | (simp only [Nat.reduceAdd]; exact rfl) | exact rfl))
    | ((with_reducible apply AO_skipE); (case hg => first | exact guardA_gone rfl rfl rfl | exact guardA_noT rfl rfl rfl (by with_reducible rfl) | exact guardA_noF rfl rfl rfl (by with_reducible rfl)); (case ht => simp only [putT, List.set_cons_succ, List.set_cons_zero]; exact rfl); (case hn => first | (simp only [Nat.reduceAdd]; exact rfl) | exact rfl))
    | ((with_reducible apply D_end); (case hi => exact rfl); (case hind => kernel_rfl); (case hn => first | (simp only [Nat.reduceAdd]; exact rfl) | exact rfl); (with_reducible refine hK _ ?_); clear hK K)
    | ((with_reducible apply D_stepE); (case hg => first | exact guardA_none rfl | exact guardA_yes rfl rfl rfl (by with_reducible rfl)); (case hs => simp (maxSteps := 2000000) only [go_sem, true_implies, false_implies, implies_true, reduceCtorEq, and_true, true_and, Nat.reduceAdd, Nat.reduceSub, Nat.reduceMul, Nat.reduceLT, Nat.reduceLeDiff, Nat.reduceEqDiff, Nat.reduceBEq, if_true, if_false, ite_true, ite_false, reduceIte, Bool.false_eq_true, Bool.true_eq_false, Bool.not_true, Bool.not_false, beq_self_eq_true, decide_true, decide_false, Int.reduceNeg, Int.reduceLT, Int.reduceLE, Int.reduceEq, Int.reduceToNat, Int.reducePow, Nat.reducePow, Nat.min_eq_left, Nat.min_eq_right, Int.reduceMul, Int.reduceAdd, Int.reduceSub, Int.reduceBEq, Int.reduceBNe, bne_self_eq_false, beq_true, beq_false]; exact rfl); (case ht => simp only [putT, List.set_cons_succ, List.set_cons_zero]; exact rfl); (case hn => first | (simp only [Nat.reduceAdd]; exact rfl) | exact rfl); (case hc => exact rfl))
    | ((with_reducible apply D_skipE); (case hg => first | exact guardA_gone rfl rfl rfl | exact guardA_noT rfl rfl rfl (by with_reducible rfl) | exact guardA_noF rfl rfl rfl (by with_reducible rfl)); (case ht => simp only [putT, List.set_cons_succ, List.set_cons_zero]; exact rfl); (case hn => first | (simp only [Nat.reduceAdd]; exact rfl) | exact rfl); (case hc => exact rfl))
    | ((fail_if_success ((with_reducible apply AO_stepE); (case hg => first | exact guardA_none rfl | exact guardA_yes rfl rfl rfl (by with_reducible rfl)))); (fail_if_success ((with_reducible apply AO_skipE); (case hg => first | exact guardA_gone rfl rfl rfl | exact guardA_noT rfl rfl rfl (by with_reducible rfl) | exact guardA_noF rfl rfl rfl (by with_reducible rfl)))); (with_reducible apply AO_split); (case hg => exact rfl); (case hd => exact rfl); (case hb => exact rfl); (case e1 => simp only [putT, List.set_cons_succ, List.set_cons_zero]; exact rfl); (case e2 => simp only [putT, List.set_cons_succ, List.set_cons_zero]; exact rfl); all_goals intro hg)
    | ((fail_if_success ((with_reducible apply D_stepE); (case hg => first | exact guardA_none rfl | exact guardA_yes rfl rfl rfl (by with_reducible rfl)))); (fail_if_success ((with_reducible apply D_skipE); (case hg => first | exact guardA_gone rfl rfl rfl | exact guardA_noT rfl rfl rfl (by with_reducible rfl) | exact guardA_noF rfl rfl rfl (by with_reducible rfl)))); (with_reducible apply D_split); (case hg => exact rfl); (case hd => exact rfl); (case hb => exact rfl); (case e1 => simp only [putT, List.set_cons_succ, List.set_cons_zero]; exact rfl); (case e2 => simp only [putT, List.set_cons_succ, List.set_cons_zero]; exact rfl); all_goals intro hg)
  refine W_while (fun m s => ∃ (i n : Int) (nx : Nat), -1 ≤ i ∧ i ≤ 63 ∧ m = (i + 1).toNat ∧ n = a * (b / 2 ^ (i + 1).toNat) ∧ s = ⟨[.int .u64 a, .int .u64 b, .junk, .junk, .ptr 0 1 0 0, .ptr 1 1 0 0, .int .i64 i,
    .junk, .junk, .junk, .junk, .junk, .junk, .junk, .junk, .junk, .junk, .junk, .junk, .junk, .junk, .junk, .junk, .junk, .junk],
    [(1, .arr 2 [[.int .u64 (n / 18446744073709551616), .int .u64 (n % 18446744073709551616)]]), (0, .arr 2 [[.int .u64 0, .int .u64 0]])], nx⟩) 64 _ ⟨63, 0, 3, by omega, by omega, rfl, ?_, rfl⟩ ⟨by simp [dropL], by simp, rfl⟩ ?_
  · have : b / 2 ^ (63 + 1 : Int).toNat = 0 := Int.ediv_eq_zero_of_lt hb0.1 hb0.2
    rw [this, Int.mul_zero]
  rintro m s ⟨i, n, nx, h1, h2, h3, h4, rfl⟩
  have hn0 : 0 ≤ n := by
    rw [h4]
    exact Int.mul_nonneg ha.1 (Int.ediv_nonneg hb0.1 (Int.pow_nonneg (by omega)))
  rcases Int.lt_or_le i 0 with hi | hi
  · obtain rfl : i = -1 := by omega
    have e : a * b = n := by
      rw [h4]
      simp
    repeat' first
      | with_reducible refine W_seq ?_
      | with_reducible refine W_block ?_
      | with_reducible refine W_skip ?_
      | with_reducible refine N_code ?_
      | with_reducible refine N_blk ?_
      | with_reducible refine W_exit ?_
      | with_reducible refine E_blk ?_
      | with_reducible refine E_code ?_
      | with_reducible refine E_blk_ne (by decide) ?_
      | with_reducible refine W_ret ?_
      | with_reducible refine R_code ?_
      | with_reducible refine R_blk ?_
      | with_reducible refine R_nil ?_
      | with_reducible refine L_exit ?_
      | with_reducible refine L_ret ?_
      | ((with_reducible apply W_condE); (case hb => exact rfl); (case e1 => simp only [putT, List.set_cons_succ, List.set_cons_zero]; exact rfl); (case e2 => simp only [putT, List.set_cons_succ, List.set_cons_zero]; exact rfl); all_goals (intro hb; first | (exfalso; revert hb; simp; done) | (exfalso; simp at hb; omega) | simp only [beq_iff_eq, beq_eq_false_iff_ne, bne_iff_ne, bne_eq_false_iff_eq, ne_eq, decide_eq_true_eq, decide_eq_false_iff_not, Int.not_lt, Int.not_le] at hb | skip))
      | (with_reducible refine W_reg fun K hK => ?_)
      | (with_reducible refine W_drw mixed (by decide +kernel) fun K hK => ?_)
      | ((with_reducible refine AO_nil (hK _ ?_)); clear hK K)
      | ((with_reducible apply AO_stepE); (case hg => first | exact guardA_none rfl | exact guardA_yes rfl rfl rfl (by with_reducible rfl)); (case hs => simp (maxSteps := 2000000) only [go_sem, true_implies, false_implies, implies_true, reduceCtorEq, and_true, true_and, Nat.reduceAdd, Nat.reduceSub, Nat.reduceMul, Nat.reduceLT, Nat.reduceLeDiff, Nat.reduceEqDiff, Nat.reduceBEq, if_true, if_false, ite_true, ite_false, reduceIte, Bool.false_eq_true, Bool.true_eq_false, Bool.not_true, Bool.not_false, beq_self_eq_true, decide_true, decide_false, Int.reduceNeg, Int.reduceLT, Int.reduceLE, Int.reduceEq, Int.reduceToNat, Int.reducePow, Nat.reducePow, Nat.min_eq_left, Nat.min_eq_right, Int.reduceMul, Int.reduceAdd, Int.reduceSub, Int.reduceBEq, Int.reduceBNe, bne_self_eq_false, beq_true, beq_false]; exact rfl); (case ht => simp only [putT, List.set_cons_succ, List.set_cons_zero]; exact rfl); (case hn => first | (simp only [Nat.reduceAdd]; exact rfl) | exact rfl))
      | ((with_reducible apply AO_skipE); (case hg => first | exact guardA_gone rfl rfl rfl | exact guardA_noT rfl rfl rfl (by with_reducible rfl) | exact guardA_noF rfl rfl rfl (by with_reducible rfl)); (case ht => simp only [putT, List.set_cons_succ, List.set_cons_zero]; exact rfl); (case hn => first | (simp only [Nat.reduceAdd]; exact rfl) | exact rfl))
      | ((with_reducible apply D_end); (case hi => exact rfl); (case hind => kernel_rfl); (case hn => first | (simp only [Nat.reduceAdd]; exact rfl) | exact rfl); (with_reducible refine hK _ ?_); clear hK K)
      | ((with_reducible apply D_stepE); (case hg => first | exact guardA_none rfl | exact guardA_yes rfl rfl rfl (by with_reducible rfl)); (case hs => simp (maxSteps := 2000000) only [go_sem, true_implies, false_implies, implies_true, reduceCtorEq, and_true, true_and, Nat.reduceAdd, Nat.reduceSub, Nat.reduceMul, Nat.reduceLT, Nat.reduceLeDiff, Nat.reduceEqDiff, Nat.reduceBEq, if_true, if_false, ite_true, ite_false, reduceIte, Bool.false_eq_true, Bool.true_eq_false, Bool.not_true, Bool.not_false, beq_self_eq_true, decide_true, decide_false, Int.reduceNeg, Int.reduceLT, Int.reduceLE, Int.reduceEq, Int.reduceToNat, Int.reducePow, Nat.reducePow, Nat.min_eq_left, Nat.min_eq_right, Int.reduceMul, Int.reduceAdd, Int.reduceSub, Int.reduceBEq, Int.reduceBNe, bne_self_eq_false, beq_true, beq_false]; exact rfl); (case ht => simp only [putT, List.set_cons_succ, List.set_cons_zero]; exact rfl); (case hn => first | (simp only [Nat.reduceAdd]; exact rfl) | exact rfl); (case hc => exact rfl))
      | ((with_reducible apply D_skipE); (case hg => first | exact guardA_gone rfl rfl rfl | exact guardA_noT rfl rfl rfl (by with_reducible rfl) | exact guardA_noF rfl rfl rfl (by with_reducible rfl)); (case ht => simp only [putT, List.set_cons_succ, List.set_cons_zero]; exact rfl); (case hn => first | (simp only [Nat.reduceAdd]; exact rfl) | exact rfl); (case hc => exact rfl))
      | ((fail_if_success ((with_reducible apply AO_stepE); (case hg => first | exact guardA_none rfl | exact guardA_yes rfl rfl rfl (by with_reducible rfl)))); (fail_if_success ((with_reducible apply AO_skipE); (case hg => first | exact guardA_gone rfl rfl rfl | exact guardA_noT rfl rfl rfl (by with_reducible rfl) | exact guardA_noF rfl rfl rfl (by with_reducible rfl)))); (with_reducible apply AO_split); (case hg => exact rfl); (case hd => exact rfl); (case hb => exact rfl); (case e1 => simp only [putT, List.set_cons_succ, List.set_cons_zero]; exact rfl); (case e2 => simp only [putT, List.set_cons_succ, List.set_cons_zero]; exact rfl); all_goals intro hg)
      | ((fail_if_success ((with_reducible apply D_stepE); (case hg => first | exact guardA_none rfl | exact guardA_yes rfl rfl rfl (by with_reducible rfl)))); (fail_if_success ((with_reducible apply D_skipE); (case hg => first | exact guardA_gone rfl rfl rfl | exact guardA_noT rfl rfl rfl (by with_reducible rfl) | exact guardA_noF rfl rfl rfl (by with_reducible rfl)))); (with_reducible apply D_split); (case hg => exact rfl); (case hd => exact rfl); (case hb => exact rfl); (case e1 => simp only [putT, List.set_cons_succ, List.set_cons_zero]; exact rfl); (case e2 => simp only [putT, List.set_cons_succ, List.set_cons_zero]; exact rfl); all_goals intro hg)
    refine retQ_of (xs := [.agg [.int .u64 _, .int .u64 _]]) rfl (by simp [packA, Fz.agg_iff, Fz.int_iff]) ?_
    simp only [packA, e]
  · obtain ⟨k, rfl⟩ : ∃ k : Nat, i = k := ⟨i.toNat, by omega⟩
    have ek : ((k : Int) + 1).toNat = k + 1 := by omega
    rw [ek] at h3 h4
    have hs := half_step b k hb0.1
    have hr : (b / 2 ^ k) % 2 = 0 ∨ (b / 2 ^ k) % 2 = 1 := by omega
    have hq1 : 0 ≤ b / 2 ^ (k + 1) := Int.ediv_nonneg hb0.1 (Int.pow_nonneg (by omega))
    have hq0 : b / 2 ^ k ≤ b := Int.ediv_le_self _ hb0.1
    have hn1 : n ≤ 18446744073709551615 * 9223372036854775807 := by
      rw [h4]
      exact Int.mul_le_mul (by omega) (by omega) hq1 (by omega)
    have ew : IntKind.u64.wrap (k : Int) = k := wrap_id (by omega) (by omega)
    have ei : IntKind.i64.wrap ((k : Int) - 1) = k - 1 := by rw [IntKind.wrap_i64]; omega
    have en : ¬ (k : Int) < 0 := by omega
    have et : (k : Int).toNat = k := by omega
    have em : min k 64 = k := by omega
    have ef : b.fdiv (2 ^ k) = b / 2 ^ k := Int.fdiv_eq_ediv_of_nonneg _ (Int.pow_nonneg (by omega))
    have etm : (b / 2 ^ k).tmod 2 = b / 2 ^ k % 2 := Int.tmod_eq_emod_of_nonneg (Int.ediv_nonneg hb0.1 (Int.pow_nonneg (by omega)))
    repeat' first
      | with_reducible refine W_seq ?_
      | with_reducible refine W_block ?_
      | with_reducible refine W_skip ?_
      | with_reducible refine N_code ?_
      | with_reducible refine N_blk ?_
      | with_reducible refine W_exit ?_
      | with_reducible refine E_blk ?_
      | with_reducible refine E_code ?_
      | with_reducible refine E_blk_ne (by decide) ?_
      | with_reducible refine W_ret ?_
      | with_reducible refine R_code ?_
      | with_reducible refine R_blk ?_
      | with_reducible refine R_nil ?_
      | with_reducible refine L_exit ?_
      | with_reducible refine L_ret ?_
      | ((with_reducible apply W_condE); (case hb => exact rfl); (case e1 => simp only [putT, List.set_cons_succ, List.set_cons_zero]; exact rfl); (case e2 => simp only [putT, List.set_cons_succ, List.set_cons_zero]; exact rfl); all_goals (intro hb; first | (exfalso; revert hb; simp; done) | (exfalso; simp at hb; omega) | simp only [beq_iff_eq, beq_eq_false_iff_ne, bne_iff_ne, bne_eq_false_iff_eq, ne_eq, decide_eq_true_eq, decide_eq_false_iff_not, Int.not_lt, Int.not_le] at hb | skip))
      | (with_reducible refine W_reg fun K hK => ?_)
      | (with_reducible refine W_drw mixed (by decide +kernel) fun K hK => ?_)
      | ((with_reducible refine AO_nil (hK _ ?_)); clear hK K)
      | ((with_reducible apply AO_stepE); (case hg => first | exact guardA_none rfl | exact guardA_yes rfl rfl rfl (by with_reducible rfl)); (case hs => simp (maxSteps := 2000000) only [go_sem, true_implies, false_implies, implies_true, reduceCtorEq, and_true, true_and, Nat.reduceAdd, Nat.reduceSub, Nat.reduceMul, Nat.reduceLT, Nat.reduceLeDiff, Nat.reduceEqDiff, Nat.reduceBEq, if_true, if_false, ite_true, ite_false, reduceIte, Bool.false_eq_true, Bool.true_eq_false, Bool.not_true, Bool.not_false, beq_self_eq_true, decide_true, decide_false, Int.reduceNeg, Int.reduceLT, Int.reduceLE, Int.reduceEq, Int.reduceToNat, Int.reducePow, Nat.reducePow, Nat.min_eq_left, Nat.min_eq_right, Int.reduceMul, Int.reduceAdd, Int.reduceSub, Int.reduceBEq, Int.reduceBNe, bne_self_eq_false, beq_true, beq_false, ew, ei, en, et, em, ef, etm]; exact rfl); (case ht => simp only [putT, List.set_cons_succ, List.set_cons_zero]; exact rfl); (case hn => first | (simp only [Nat.reduceAdd]; exact rfl) | exact rfl))
      | ((with_reducible apply AO_skipE); (case hg => first | exact guardA_gone rfl rfl rfl | exact guardA_noT rfl rfl rfl (by with_reducible rfl) | exact guardA_noF rfl rfl rfl (by with_reducible rfl)); (case ht => simp only [putT, List.set_cons_succ, List.set_cons_zero]; exact rfl); (case hn => first | (simp only [Nat.reduceAdd]; exact rfl) | exact rfl))
      | ((with_reducible apply D_end); (case hi => exact rfl); (case hind => kernel_rfl); (case hn => first | (simp only [Nat.reduceAdd]; exact rfl) | exact rfl); (with_reducible refine hK _ ?_); clear hK K)
      | ((with_reducible apply D_stepE); (case hg => first | exact guardA_none rfl | exact guardA_yes rfl rfl rfl (by with_reducible rfl)); (case hs => simp (maxSteps := 2000000) only [go_sem, true_implies, false_implies, implies_true, reduceCtorEq, and_true, true_and, Nat.reduceAdd, Nat.reduceSub, Nat.reduceMul, Nat.reduceLT, Nat.reduceLeDiff, Nat.reduceEqDiff, Nat.reduceBEq, if_true, if_false, ite_true, ite_false, reduceIte, Bool.false_eq_true, Bool.true_eq_false, Bool.not_true, Bool.not_false, beq_self_eq_true, decide_true, decide_false, Int.reduceNeg, Int.reduceLT, Int.reduceLE, Int.reduceEq, Int.reduceToNat, Int.reducePow, Nat.reducePow, Nat.min_eq_left, Nat.min_eq_right, Int.reduceMul, Int.reduceAdd, Int.reduceSub, Int.reduceBEq, Int.reduceBNe, bne_self_eq_false, beq_true, beq_false, ew, ei, en, et, em, ef, etm]; exact rfl); (case ht => simp only [putT, List.set_cons_succ, List.set_cons_zero]; exact rfl); (case hn => first | (simp only [Nat.reduceAdd]; exact rfl) | exact rfl); (case hc => exact rfl))
      | ((with_reducible apply D_skipE); (case hg => first | exact guardA_gone rfl rfl rfl | exact guardA_noT rfl rfl rfl (by with_reducible rfl) | exact guardA_noF rfl rfl rfl (by with_reducible rfl)); (case ht => simp only [putT, List.set_cons_succ, List.set_cons_zero]; exact rfl); (case hn => first | (simp only [Nat.reduceAdd]; exact rfl) | exact rfl); (case hc => exact rfl))
      | ((with_reducible apply AO_callE); (case hg => first | exact guardA_none rfl | exact guardA_yes rfl rfl rfl (by with_reducible rfl)); (case ho => exact rfl); (case ht => exact rfl); (case hp' => first | exact plus_ok n n _ _ (by omega) (by omega) (by omega) rfl rfl | exact plus_ok (n + n) a _ _ (by omega) (by omega) (by omega) (by omega) (by omega)); (case htm => simp only [putT, List.set_cons_succ, List.set_cons_zero]; exact rfl); (case hn => first | (simp only [Nat.reduceAdd]; exact rfl) | exact rfl))
      | ((with_reducible apply D_callE); (case hg => first | exact guardA_none rfl | exact guardA_yes rfl rfl rfl (by with_reducible rfl)); (case ho => exact rfl); (case ht => exact rfl); (case hp' => first | exact plus_ok n n _ _ (by omega) (by omega) (by omega) rfl rfl | exact plus_ok (n + n) a _ _ (by omega) (by omega) (by omega) (by omega) (by omega)); (case htm => simp only [putT, List.set_cons_succ, List.set_cons_zero]; exact rfl); (case hn => first | (simp only [Nat.reduceAdd]; exact rfl) | exact rfl); (case hc => exact rfl))
      | ((fail_if_success ((with_reducible apply AO_stepE); (case hg => first | exact guardA_none rfl | exact guardA_yes rfl rfl rfl (by with_reducible rfl)))); (fail_if_success ((with_reducible apply AO_skipE); (case hg => first | exact guardA_gone rfl rfl rfl | exact guardA_noT rfl rfl rfl (by with_reducible rfl) | exact guardA_noF rfl rfl rfl (by with_reducible rfl)))); (with_reducible apply AO_split); (case hg => exact rfl); (case hd => exact rfl); (case hb => exact rfl); (case e1 => simp only [putT, List.set_cons_succ, List.set_cons_zero]; exact rfl); (case e2 => simp only [putT, List.set_cons_succ, List.set_cons_zero]; exact rfl); all_goals intro hg)
      | ((fail_if_success ((with_reducible apply D_stepE); (case hg => first | exact guardA_none rfl | exact guardA_yes rfl rfl rfl (by with_reducible rfl)))); (fail_if_success ((with_reducible apply D_skipE); (case hg => first | exact guardA_gone rfl rfl rfl | exact guardA_noT rfl rfl rfl (by with_reducible rfl) | exact guardA_noF rfl rfl rfl (by with_reducible rfl)))); (with_reducible apply D_split); (case hg => exact rfl); (case hd => exact rfl); (case hb => exact rfl); (case e1 => simp only [putT, List.set_cons_succ, List.set_cons_zero]; exact rfl); (case e2 => simp only [putT, List.set_cons_succ, List.set_cons_zero]; exact rfl); all_goals intro hg)
    · refine L_next ⟨k, by omega, _, ⟨(k : Int) - 1, n + n + a, _, by omega, by omega, by omega, ?_, rfl⟩, ⟨by simp [dropL], rfl, rfl⟩⟩
      have e1 : ((k : Int) - 1 + 1).toNat = k := by omega
      rw [e1, hs, hb, h4, Int.mul_add, Int.mul_one, ← Int.mul_assoc, Int.mul_comm a 2, Int.mul_assoc]
      omega
    · refine L_next ⟨k, by omega, _, ⟨(k : Int) - 1, n + n, _, by omega, by omega, by omega, ?_, rfl⟩, ⟨by simp [dropL], rfl, rfl⟩⟩
      have e1 : ((k : Int) - 1 + 1).toNat = k := by omega
      have e2 : b / 2 ^ k % 2 = 0 := by omega
      rw [e1, hs, e2, h4, Int.add_zero, ← Int.mul_assoc, Int.mul_comm a 2, Int.mul_assoc]
      omega

theorem rcmp_ok (a b c d : Int) (ha : 0 ≤ a ∧ a < 18446744073709551616) (hb0 : 0 ≤ b ∧ b < 18446744073709551616) (hc0 : 0 ≤ c ∧ c < 18446744073709551616) (hd0 : 0 ≤ d ∧ d < 18446744073709551616) :
    PCall Try.prog 15 [.int .u64 a, .int .u64 b, .int .u64 c, .int .u64 d] (· = .int .i64 (if b = 0 then if d = 0 then 0 else 1 else if d = 0 then -1 else if a * d < c * b then -1 else if c * b < a * d then 1 else 0)) := by
  have i1 := times_ok a d ha hd0
  have i2 := times_ok c b hc0 hb0
  generalize a * d = p at *
  generalize c * b = q at *
  refine PCall_intro (c := Try.f15.body.getD .skip) Try.func15 rfl (by decide +kernel) (by simp [Fz.int_iff, Fz.bool_iff, Fz.agg_iff, Fz.str_iff]) (W_start ?_)
  simp only [Try.f15, go_sem, Nat.reduceAdd, Nat.reduceSub]
  repeat' first
    | with_reducible refine W_seq ?_
    | with_reducible refine W_block ?_
    | with_reducible refine W_skip ?_
    | with_reducible refine N_code ?_
    | with_reducible refine N_blk ?_
    | with_reducible refine W_exit ?_
    | with_reducible refine E_blk ?_
    | with_reducible refine E_code ?_
    | with_reducible refine E_blk_ne (by decide) ?_
    | with_reducible refine W_ret ?_
    | with_reducible refine R_code ?_
    | with_reducible refine R_blk ?_
    | with_reducible refine R_nil ?_
    | with_reducible refine L_exit ?_
    | with_reducible refine L_ret ?_
    | ((with_reducible apply W_condE); (case hb => exact rfl); (case e1 => simp only [putT, List.set_cons_succ, List.set_cons_zero]; exact rfl); (case e2 => simp only [putT, List.set_cons_succ, List.set_cons_zero]; exact rfl); all_goals (intro hb; first | (exfalso; revert hb; simp; done) | (exfalso; simp at hb; omega) | simp only [beq_iff_eq, beq_eq_false_iff_ne, bne_iff_ne, bne_eq_false_iff_eq, ne_eq, decide_eq_true_eq, decide_eq_false_iff_not, Int.not_lt, Int.not_le] at hb | skip))
    | (with_reducible refine W_reg fun K hK => ?_)
    | (with_reducible refine W_drw mixed (by decide +kernel) fun K hK => ?_)
    | ((with_reducible refine AO_nil (hK _ ?_)); clear hK K)
    | ((with_reducible apply AO_stepE); (case hg => first | exact guardA_none rfl | exact guardA_yes rfl rfl rfl (by with_reducible rfl)); (case hs => simp (maxSteps := 2000000) only [go_sem, true_implies, false_implies, implies_true, reduceCtorEq, and_true, true_and, Nat.reduceAdd, Nat.reduceSub, Nat.reduceMul, Nat.reduceLT, Nat.reduceLeDiff, Nat.reduceEqDiff, Nat.reduceBEq, if_true, if_false, ite_true, ite_false, reduceIte, Bool.false_eq_true, Bool.true_eq_false, Bool.not_true, Bool.not_false, beq_self_eq_true, decide_true, decide_false, Int.reduceNeg, Int.reduceLT, Int.reduceLE, Int.reduceEq, Int.reduceToNat, Int.reducePow, Nat.reducePow, Nat.min_eq_left, Nat.min_eq_right, Int.reduceMul, Int.reduceAdd, Int.reduceSub, Int.reduceBEq, Int.reduceBNe, bne_self_eq_false, beq_true, beq_false]; exact rfl); (case ht => simp only [putT, List.set_cons_succ, List.set_cons_zero]; exact rfl); (case hn => first | (simp only [Nat.reduceAdd]; exact rfl) | exact rfl))
    | ((with_reducible apply AO_skipE); (case hg => first | exact guardA_gone rfl rfl rfl | exact guardA_noT rfl rfl rfl (by with_reducible rfl) | exact guardA_noF rfl rfl rfl (by with_reducible rfl)); (case ht => simp only [putT, List.set_cons_succ, List.set_cons_zero]; exact rfl); (case hn => first | (simp only [Nat.reduceAdd]; exact rfl) | exact rfl))
    | ((with_reducible apply D_end); (case hi => exact rfl); (case hind => kernel_rfl); (case hn => first | (simp only [Nat.reduceAdd]; exact rfl) | exact rfl); (with_reducible refine hK _ ?_); clear hK K)
    | ((with_reducible apply D_stepE); (case hg => first | exact guardA_none rfl | exact guardA_yes rfl rfl rfl (by with_reducible rfl)); (case hs => simp (maxSteps := 2000000) only [go_sem, true_implies, false_implies, implies_true, reduceCtorEq, and_true, true_and, Nat.reduceAdd, Nat.reduceSub, Nat.reduceMul, Nat.reduceLT, Nat.reduceLeDiff, Nat.reduceEqDiff, Nat.reduceBEq, if_true, if_false, ite_true, ite_false, reduceIte, Bool.false_eq_true, Bool.true_eq_false, Bool.not_true, Bool.not_false, beq_self_eq_true, decide_true, decide_false, Int.reduceNeg, Int.reduceLT, Int.reduceLE, Int.reduceEq, Int.reduceToNat, Int.reducePow, Nat.reducePow, Nat.min_eq_left, Nat.min_eq_right, Int.reduceMul, Int.reduceAdd, Int.reduceSub, Int.reduceBEq, Int.reduceBNe, bne_self_eq_false, beq_true, beq_false]; exact rfl); (case ht => simp only [putT, List.set_cons_succ, List.set_cons_zero]; exact rfl); (case hn => first | (simp only [Nat.reduceAdd]; exact rfl) | exact rfl); (case hc => exact rfl))
    | ((with_reducible apply D_skipE); (case hg => first | exact guardA_gone rfl rfl rfl | exact guardA_noT rfl rfl rfl (by with_reducible rfl) | exact guardA_noF rfl rfl rfl (by with_reducible rfl)); (case ht => simp only [putT, List.set_cons_succ, List.set_cons_zero]; exact rfl); (case hn => first | (simp only [Nat.reduceAdd]; exact rfl) | exact rfl); (case hc => exact rfl))
    | ((with_reducible apply AO_callE); (case hg => first | exact guardA_none rfl | exact guardA_yes rfl rfl rfl (by with_reducible rfl)); (case ho => exact rfl); (case ht => exact rfl); (case hp' => first | exact i1 | exact i2 | exact less_ok p q | exact less_ok q p); (case htm => simp only [putT, List.set_cons_succ, List.set_cons_zero]; exact rfl); (case hn => first | (simp only [Nat.reduceAdd]; exact rfl) | exact rfl))
    | ((with_reducible apply D_callE); (case hg => first | exact guardA_none rfl | exact guardA_yes rfl rfl rfl (by with_reducible rfl)); (case ho => exact rfl); (case ht => exact rfl); (case hp' => first | exact i1 | exact i2 | exact less_ok p q | exact less_ok q p); (case htm => simp only [putT, List.set_cons_succ, List.set_cons_zero]; exact rfl); (case hn => first | (simp only [Nat.reduceAdd]; exact rfl) | exact rfl); (case hc => exact rfl))
    | ((fail_if_success ((with_reducible apply AO_stepE); (case hg => first | exact guardA_none rfl | exact guardA_yes rfl rfl rfl (by with_reducible rfl)))); (fail_if_success ((with_reducible apply AO_skipE); (case hg => first | exact guardA_gone rfl rfl rfl | exact guardA_noT rfl rfl rfl (by with_reducible rfl) | exact guardA_noF rfl rfl rfl (by with_reducible rfl)))); (with_reducible apply AO_split); (case hg => exact rfl); (case hd => exact rfl); (case hb => exact rfl); (case e1 => simp only [putT, List.set_cons_succ, List.set_cons_zero]; exact rfl); (case e2 => simp only [putT, List.set_cons_succ, List.set_cons_zero]; exact rfl); all_goals intro hg)
    | ((fail_if_success ((with_reducible apply D_stepE); (case hg => first | exact guardA_none rfl | exact guardA_yes rfl rfl rfl (by with_reducible rfl)))); (fail_if_success ((with_reducible apply D_skipE); (case hg => first | exact guardA_gone rfl rfl rfl | exact guardA_noT rfl rfl rfl (by with_reducible rfl) | exact guardA_noF rfl rfl rfl (by with_reducible rfl)))); (with_reducible apply D_split); (case hg => exact rfl); (case hd => exact rfl); (case hb => exact rfl); (case e1 => simp only [putT, List.set_cons_succ, List.set_cons_zero]; exact rfl); (case e2 => simp only [putT, List.set_cons_succ, List.set_cons_zero]; exact rfl); all_goals intro hg)
  all_goals refine retQ_int rfl ?_
  all_goals congr 1
  all_goals simp only [beq_iff_eq, beq_eq_false_iff_ne, ne_eq, decide_eq_true_eq, decide_eq_false_iff_not] at *
  all_goals (repeat' split) <;> first | omega | rfl

theorem fixRatios_ok (a b c d : Int) (ha : 0 ≤ a ∧ a < 18446744073709551616) (hb0 : 0 ≤ b ∧ b < 18446744073709551616) (hc0 : 0 ≤ c ∧ c < 18446744073709551616) (hd0 : 0 ≤ d ∧ d < 18446744073709551616) :
    PCall Try.prog 4 [.int .u64 a, .int .u64 b, .int .u64 c, .int .u64 d] (· = .bool true) := by
  have i1 := cmp_ok a b c d ha hb0 hc0 hd0
  have i2 := rcmp_ok a b c d ha hb0 hc0 hd0
  generalize (if b = 0 then if d = 0 then (0 : Int) else 1 else if d = 0 then -1 else if a * d < c * b then -1 else if c * b < a * d then 1 else 0) = r at *
  refine PCall_intro (c := Try.f4.body.getD .skip) Try.func4 rfl (by decide +kernel) (by simp [Fz.int_iff, Fz.bool_iff, Fz.agg_iff, Fz.str_iff]) (W_start ?_)
  simp only [Try.f4, go_sem, Nat.reduceAdd, Nat.reduceSub]
  repeat' first
    | with_reducible refine W_seq ?_
    | with_reducible refine W_block ?_
    | with_reducible refine W_skip ?_
    | with_reducible refine N_code ?_
    | with_reducible refine N_blk ?_
    | with_reducible refine W_exit ?_
    | with_reducible refine E_blk ?_
    | with_reducible refine E_code ?_
    | with_reducible refine E_blk_ne (by decide) ?_
    | with_reducible refine W_ret ?_
    | with_reducible refine R_code ?_
    | with_reducible refine R_blk ?_
    | with_reducible refine R_nil ?_
    | with_reducible refine L_exit ?_
    | with_reducible refine L_ret ?_
    | ((with_reducible apply W_condE); (case hb => exact rfl); (case e1 => simp only [putT, List.set_cons_succ, List.set_cons_zero]; exact rfl); (case e2 => simp only [putT, List.set_cons_succ, List.set_cons_zero]; exact rfl); all_goals (intro hb; first | (exfalso; revert hb; simp; done) | (exfalso; simp at hb; omega) | simp only [beq_iff_eq, beq_eq_false_iff_ne, bne_iff_ne, bne_eq_false_iff_eq, ne_eq, decide_eq_true_eq, decide_eq_false_iff_not, Int.not_lt, Int.not_le] at hb | skip))
    | (with_reducible refine W_reg fun K hK => ?_)
    | (with_reducible refine W_drw mixed (by decide +kernel) fun K hK => ?_)
    | ((with_reducible refine AO_nil (hK _ ?_)); clear hK K)
    | ((with_reducible apply AO_stepE); (case hg => first | exact guardA_none rfl | exact guardA_yes rfl rfl rfl (by with_reducible rfl)); (case hs => simp (maxSteps := 2000000) only [go_sem, true_implies, false_implies, implies_true, reduceCtorEq, and_true, true_and, Nat.reduceAdd, Nat.reduceSub, Nat.reduceMul, Nat.reduceLT, Nat.reduceLeDiff, Nat.reduceEqDiff, Nat.reduceBEq, if_true, if_false, ite_true, ite_false, reduceIte, Bool.false_eq_true, Bool.true_eq_false, Bool.not_true, Bool.not_false, beq_self_eq_true, decide_true, decide_false, Int.reduceNeg, Int.reduceLT, Int.reduceLE, Int.reduceEq, Int.reduceToNat, Int.reducePow, Nat.reducePow, Nat.min_eq_left, Nat.min_eq_right, Int.reduceMul, Int.reduceAdd, Int.reduceSub, Int.reduceBEq, Int.reduceBNe, bne_self_eq_false, beq_true, beq_false]; exact rfl); (case ht => simp only [putT, List.set_cons_succ, List.set_cons_zero]; exact rfl); (case hn => first | (simp only [Nat.reduceAdd]; exact rfl) | exact rfl))
    | ((with_reducible apply AO_skipE); (case hg => first | exact guardA_gone rfl rfl rfl | exact guardA_noT rfl rfl rfl (by with_reducible rfl) | exact guardA_noF rfl rfl rfl (by with_reducible rfl)); (case ht => simp only [putT, List.set_cons_succ, List.set_cons_zero]; exact rfl); (case hn => first | (simp only [Nat.reduceAdd]; exact rfl) | exact rfl))
    | ((with_reducible apply D_end); (case hi => exact rfl); (case hind => kernel_rfl); (case hn => first | (simp only [Nat.reduceAdd]; exact rfl) | exact rfl); (with_reducible refine hK _ ?_); clear hK K)
    | ((with_reducible apply D_stepE); (case hg => first | exact guardA_none rfl | exact guardA_yes rfl rfl rfl (by with_reducible rfl)); (case hs => simp (maxSteps := 2000000) only [go_sem, true_implies, false_implies, implies_true, reduceCtorEq, and_true, true_and, Nat.reduceAdd, Nat.reduceSub, Nat.reduceMul, Nat.reduceLT, Nat.reduceLeDiff, Nat.reduceEqDiff, Nat.reduceBEq, if_true, if_false, ite_true, ite_false, reduceIte, Bool.false_eq_true, Bool.true_eq_false, Bool.not_true, Bool.not_false, beq_self_eq_true, decide_true, decide_false, Int.reduceNeg, Int.reduceLT, Int.reduceLE, Int.reduceEq, Int.reduceToNat, Int.reducePow, Nat.reducePow, Nat.min_eq_left, Nat.min_eq_right, Int.reduceMul, Int.reduceAdd, Int.reduceSub, Int.reduceBEq, Int.reduceBNe, bne_self_eq_false, beq_true, beq_false]; exact rfl); (case ht => simp only [putT, List.set_cons_succ, List.set_cons_zero]; exact rfl); (case hn => first | (simp only [Nat.reduceAdd]; exact rfl) | exact rfl); (case hc => exact rfl))
    | ((with_reducible apply D_skipE); (case hg => first | exact guardA_gone rfl rfl rfl | exact guardA_noT rfl rfl rfl (by with_reducible rfl) | exact guardA_noF rfl rfl rfl (by with_reducible rfl)); (case ht => simp only [putT, List.set_cons_succ, List.set_cons_zero]; exact rfl); (case hn => first | (simp only [Nat.reduceAdd]; exact rfl) | exact rfl); (case hc => exact rfl))
    | ((with_reducible apply AO_callE); (case hg => first | exact guardA_none rfl | exact guardA_yes rfl rfl rfl (by with_reducible rfl)); (case ho => exact rfl); (case ht => exact rfl); (case hp' => first | exact awake_ok | exact i1 | exact i2); (case htm => simp only [putT, List.set_cons_succ, List.set_cons_zero]; exact rfl); (case hn => first | (simp only [Nat.reduceAdd]; exact rfl) | exact rfl))
    | ((with_reducible apply D_callE); (case hg => first | exact guardA_none rfl | exact guardA_yes rfl rfl rfl (by with_reducible rfl)); (case ho => exact rfl); (case ht => exact rfl); (case hp' => first | exact awake_ok | exact i1 | exact i2); (case htm => simp only [putT, List.set_cons_succ, List.set_cons_zero]; exact rfl); (case hn => first | (simp only [Nat.reduceAdd]; exact rfl) | exact rfl); (case hc => exact rfl))
    | ((fail_if_success ((with_reducible apply AO_stepE); (case hg => first | exact guardA_none rfl | exact guardA_yes rfl rfl rfl (by with_reducible rfl)))); (fail_if_success ((with_reducible apply AO_skipE); (case hg => first | exact guardA_gone rfl rfl rfl | exact guardA_noT rfl rfl rfl (by with_reducible rfl) | exact guardA_noF rfl rfl rfl (by with_reducible rfl)))); (with_reducible apply AO_split); (case hg => exact rfl); (case hd => exact rfl); (case hb => exact rfl); (case e1 => simp only [putT, List.set_cons_succ, List.set_cons_zero]; exact rfl); (case e2 => simp only [putT, List.set_cons_succ, List.set_cons_zero]; exact rfl); all_goals intro hg)
    | ((fail_if_success ((with_reducible apply D_stepE); (case hg => first | exact guardA_none rfl | exact guardA_yes rfl rfl rfl (by with_reducible rfl)))); (fail_if_success ((with_reducible apply D_skipE); (case hg => first | exact guardA_gone rfl rfl rfl | exact guardA_noT rfl rfl rfl (by with_reducible rfl) | exact guardA_noF rfl rfl rfl (by with_reducible rfl)))); (with_reducible apply D_split); (case hg => exact rfl); (case hd => exact rfl); (case hb => exact rfl); (case e1 => simp only [putT, List.set_cons_succ, List.set_cons_zero]; exact rfl); (case e2 => simp only [putT, List.set_cons_succ, List.set_cons_zero]; exact rfl); all_goals intro hg)
  all_goals refine retQ_bool rfl ?_
  all_goals simp

end Go.Proofs.Ytjidlifijngcpaa
