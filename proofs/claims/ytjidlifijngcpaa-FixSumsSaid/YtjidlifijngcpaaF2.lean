/-
  The laws of layer 1 that need no wide division, walked.
-/
import Derived.Test.YtjidlifijngcpaaF1
namespace Go.Proofs.Ytjidlifijngcpaa
open Go Go.AM
set_option maxHeartbeats 1000000
set_option linter.unusedSimpArgs false
attribute [local go_sem] ty3 ty4 ty22 ty39 ty43 eg39 si39 ty28 eg28

theorem awake_ok : PCall Try.prog 9 [] (· = .bool true) := by
  have i1 : PCall Try.prog 10 [.int .u64 4611686018427387903, .int .u64 5] (· = .int .u64 4611686018427387904) := add_ok _ _ (by omega) (by omega)
  have i2 : PCall Try.prog 12 [.int .u64 7, .int .u64 5] (· = .int .u64 2) := sub_ok _ _ (by omega) (by omega)
  have i3 : PCall Try.prog 18 [.int .u64 6, .int .u64 6, .int .u64 9] (· = .int .u64 4) := muldiv_small _ _ _ (by omega) (by omega) (by omega) (by omega)
  have i4 : PCall Try.prog 14 [.int .u64 1, .int .u64 3, .int .u64 2, .int .u64 5] (· = .int .i64 (-1)) := cmp_ok _ _ _ _ (by omega) (by omega) (by omega) (by omega)
  refine PCall_intro (c := Try.f9.body.getD .skip) Try.func9 rfl (by decide +kernel) (by simp [Fz.int_iff, Fz.bool_iff]) (W_start ?_)
  simp only [Try.f9, go_sem, Nat.reduceAdd, Nat.reduceSub]
  repeat' first
    | with_reducible refine W_seq ?_
    | with_reducible refine W_block ?_
    | with_reducible refine W_skip ?_
    | with_reducible refine N_code ?_
    | with_reducible refine N_blk ?_
    | with_reducible refine W_exit ?_
    | with_reducible refine E_blk ?_
    | with_reducible refine E_code ?_
    | with_reducible refine E_blk_ne (by decide) ?_
    | with_reducible refine W_ret ?_
    | with_reducible refine R_code ?_
    | with_reducible refine R_blk ?_
    | with_reducible refine R_nil ?_
    | with_reducible refine O_nil ?_
    | ((with_reducible apply W_cond); (case hc => exact rfl); all_goals (intro hb; first | (exfalso; revert hb; simp; done) | (exfalso; simp at hb; omega) | simp only [beq_iff_eq, beq_eq_false_iff_ne, bne_iff_ne, bne_eq_false_iff_eq, ne_eq, decide_eq_true_eq, decide_eq_false_iff_not, Int.not_lt, Int.not_le] at hb | skip))
    | ((with_reducible refine W_region fun K hK => ?_); simp only [go_sem, true_implies, false_implies, implies_true, reduceCtorEq, and_true, true_and, Nat.reduceAdd, Nat.reduceSub, Nat.reduceMul, Nat.reduceLT, Nat.reduceLeDiff, Nat.reduceEqDiff, Nat.reduceBEq, if_true, if_false, ite_true, ite_false, reduceIte, Bool.false_eq_true, Bool.true_eq_false, Bool.not_true, Bool.not_false, beq_self_eq_true, decide_true, decide_false, Int.reduceNeg, Int.reduceLT, Int.reduceLE, Int.reduceEq, Int.reduceToNat, Int.reducePow, Nat.reducePow, Nat.min_eq_left, Nat.min_eq_right, Int.reduceMul, Int.reduceAdd, Int.reduceSub, Int.reduceBEq, Int.reduceBNe, bne_self_eq_false, beq_true, beq_false])
    | ((with_reducible refine W_draw mixed (by decide +kernel) fun K hD => ?_); simp only [go_sem, true_implies, false_implies, implies_true, reduceCtorEq, and_true, true_and, Nat.reduceAdd, Nat.reduceSub, Nat.reduceMul, Nat.reduceLT, Nat.reduceLeDiff, Nat.reduceEqDiff, Nat.reduceBEq, if_true, if_false, ite_true, ite_false, reduceIte, Bool.false_eq_true, Bool.true_eq_false, Bool.not_true, Bool.not_false, beq_self_eq_true, decide_true, decide_false, Int.reduceNeg, Int.reduceLT, Int.reduceLE, Int.reduceEq, Int.reduceToNat, Int.reducePow, Nat.reducePow, Nat.min_eq_left, Nat.min_eq_right, Int.reduceMul, Int.reduceAdd, Int.reduceSub, Int.reduceBEq, Int.reduceBNe, bne_self_eq_false, beq_true, beq_false])
    | ((with_reducible refine hK _ _ _ ?_); clear hK K)
    | ((with_reducible refine hD _ _ _ _ _ ?_); clear hD K)
    | ((with_reducible refine D_nil ?hi ?hind ?_); (case hi => exact rfl); (case hind => first | decide +kernel | exact rfl); simp only [Nat.reduceAdd])
    | ((with_reducible apply AO_call0); (case hg => exact rfl); (case ho => exact rfl); (case ht => exact rfl); (case hp => first | exact i1 | exact i2 | exact i3 | exact i4); refine O_run fun K hK => ?_; simp only [go_sem, true_implies, false_implies, implies_true, reduceCtorEq, and_true, true_and, Nat.reduceAdd, Nat.reduceSub, Nat.reduceMul, Nat.reduceLT, Nat.reduceLeDiff, Nat.reduceEqDiff, Nat.reduceBEq, if_true, if_false, ite_true, ite_false, reduceIte, Bool.false_eq_true, Bool.true_eq_false, Bool.not_true, Bool.not_false, beq_self_eq_true, decide_true, decide_false, Int.reduceNeg, Int.reduceLT, Int.reduceLE, Int.reduceEq, Int.reduceToNat, Int.reducePow, Nat.reducePow, Nat.min_eq_left, Nat.min_eq_right, Int.reduceMul, Int.reduceAdd, Int.reduceSub, Int.reduceBEq, Int.reduceBNe, bne_self_eq_false, beq_true, beq_false])
    | ((with_reducible apply D_call0); (case hg => exact rfl); (case hop => exact rfl); (case ht => exact rfl); (case hc => first | exact i1 | exact i2 | exact i3 | exact i4); refine D_run fun K hD => ?_; simp only [go_sem, true_implies, false_implies, implies_true, reduceCtorEq, and_true, true_and, Nat.reduceAdd, Nat.reduceSub, Nat.reduceMul, Nat.reduceLT, Nat.reduceLeDiff, Nat.reduceEqDiff, Nat.reduceBEq, if_true, if_false, ite_true, ite_false, reduceIte, Bool.false_eq_true, Bool.true_eq_false, Bool.not_true, Bool.not_false, beq_self_eq_true, decide_true, decide_false, Int.reduceNeg, Int.reduceLT, Int.reduceLE, Int.reduceEq, Int.reduceToNat, Int.reducePow, Nat.reducePow, Nat.min_eq_left, Nat.min_eq_right, Int.reduceMul, Int.reduceAdd, Int.reduceSub, Int.reduceBEq, Int.reduceBNe, bne_self_eq_false, beq_true, beq_false])
    | ((with_reducible refine And.intro (fun hg => ?_) (fun hg => ?_)); all_goals (try simp only [Bool.not_eq_true', Bool.not_eq_false'] at hg; try simp only [hg, Bool.not_true, Bool.not_false, true_implies, false_implies, implies_true, reduceCtorEq, and_true, true_and, Bool.false_eq_true, Bool.true_eq_false, if_true, if_false]))
  all_goals refine retQ_bool rfl ?_
  all_goals rfl

theorem fixSums_ok (a b : Int) (ha : 0 ≤ a ∧ a < 18446744073709551616) (hb0 : 0 ≤ b ∧ b < 18446744073709551616) : PCall Try.prog 3 [.int .u64 a, .int .u64 b] (· = .bool true) := by
  refine PCall_intro (c := Try.f3.body.getD .skip) Try.func3 rfl (by decide +kernel) (by simp [Fz.int_iff, Fz.bool_iff]) (W_start ?_)
  simp only [Try.f3, go_sem, Nat.reduceAdd, Nat.reduceSub]
  repeat' first
    | with_reducible refine W_seq ?_
    | with_reducible refine W_block ?_
    | with_reducible refine W_skip ?_
    | with_reducible refine N_code ?_
    | with_reducible refine N_blk ?_
    | with_reducible refine W_exit ?_
    | with_reducible refine E_blk ?_
    | with_reducible refine E_code ?_
    | with_reducible refine E_blk_ne (by decide) ?_
    | with_reducible refine W_ret ?_
    | with_reducible refine R_code ?_
    | with_reducible refine R_blk ?_
    | with_reducible refine R_nil ?_
    | with_reducible refine O_nil ?_
    | ((with_reducible apply W_cond); (case hc => exact rfl); all_goals (intro hb; first | (exfalso; revert hb; simp; done) | (exfalso; simp at hb; omega) | simp only [beq_iff_eq, beq_eq_false_iff_ne, bne_iff_ne, bne_eq_false_iff_eq, ne_eq, decide_eq_true_eq, decide_eq_false_iff_not, Int.not_lt, Int.not_le] at hb | skip))
    | ((with_reducible refine W_region fun K hK => ?_); simp only [go_sem, true_implies, false_implies, implies_true, reduceCtorEq, and_true, true_and, Nat.reduceAdd, Nat.reduceSub, Nat.reduceMul, Nat.reduceLT, Nat.reduceLeDiff, Nat.reduceEqDiff, Nat.reduceBEq, if_true, if_false, ite_true, ite_false, reduceIte, Bool.false_eq_true, Bool.true_eq_false, Bool.not_true, Bool.not_false, beq_self_eq_true, decide_true, decide_false, Int.reduceNeg, Int.reduceLT, Int.reduceLE, Int.reduceEq, Int.reduceToNat, Int.reducePow, Nat.reducePow, Nat.min_eq_left, Nat.min_eq_right, Int.reduceMul, Int.reduceAdd, Int.reduceSub, Int.reduceBEq, Int.reduceBNe, bne_self_eq_false, beq_true, beq_false])
    | ((with_reducible refine W_draw mixed (by decide +kernel) fun K hD => ?_); simp only [go_sem, true_implies, false_implies, implies_true, reduceCtorEq, and_true, true_and, Nat.reduceAdd, Nat.reduceSub, Nat.reduceMul, Nat.reduceLT, Nat.reduceLeDiff, Nat.reduceEqDiff, Nat.reduceBEq, if_true, if_false, ite_true, ite_false, reduceIte, Bool.false_eq_true, Bool.true_eq_false, Bool.not_true, Bool.not_false, beq_self_eq_true, decide_true, decide_false, Int.reduceNeg, Int.reduceLT, Int.reduceLE, Int.reduceEq, Int.reduceToNat, Int.reducePow, Nat.reducePow, Nat.min_eq_left, Nat.min_eq_right, Int.reduceMul, Int.reduceAdd, Int.reduceSub, Int.reduceBEq, Int.reduceBNe, bne_self_eq_false, beq_true, beq_false])
    | ((with_reducible refine hK _ _ _ ?_); clear hK K)
    | ((with_reducible refine hD _ _ _ _ _ ?_); clear hD K)
    | ((with_reducible refine D_nil ?hi ?hind ?_); (case hi => exact rfl); (case hind => first | decide +kernel | exact rfl); simp only [Nat.reduceAdd])
    | ((with_reducible apply AO_call0); (case hg => exact rfl); (case ho => exact rfl); (case ht => exact rfl); (case hp => first | exact awake_ok | exact add_ok _ _ (by omega) (by omega) | exact sub_ok _ _ (by omega) (by omega) | exact radd_ok _ _ (by omega) (by omega) | exact rsub_ok _ _ (by omega) (by omega)); refine O_run fun K hK => ?_; simp only [go_sem, true_implies, false_implies, implies_true, reduceCtorEq, and_true, true_and, Nat.reduceAdd, Nat.reduceSub, Nat.reduceMul, Nat.reduceLT, Nat.reduceLeDiff, Nat.reduceEqDiff, Nat.reduceBEq, if_true, if_false, ite_true, ite_false, reduceIte, Bool.false_eq_true, Bool.true_eq_false, Bool.not_true, Bool.not_false, beq_self_eq_true, decide_true, decide_false, Int.reduceNeg, Int.reduceLT, Int.reduceLE, Int.reduceEq, Int.reduceToNat, Int.reducePow, Nat.reducePow, Nat.min_eq_left, Nat.min_eq_right, Int.reduceMul, Int.reduceAdd, Int.reduceSub, Int.reduceBEq, Int.reduceBNe, bne_self_eq_false, beq_true, beq_false])
    | ((with_reducible apply D_call0); (case hg => exact rfl); (case hop => exact rfl); (case ht => exact rfl); (case hc => first | exact awake_ok | exact add_ok _ _ (by omega) (by omega) | exact sub_ok _ _ (by omega) (by omega) | exact radd_ok _ _ (by omega) (by omega) | exact rsub_ok _ _ (by omega) (by omega)); refine D_run fun K hD => ?_; simp only [go_sem, true_implies, false_implies, implies_true, reduceCtorEq, and_true, true_and, Nat.reduceAdd, Nat.reduceSub, Nat.reduceMul, Nat.reduceLT, Nat.reduceLeDiff, Nat.reduceEqDiff, Nat.reduceBEq, if_true, if_false, ite_true, ite_false, reduceIte, Bool.false_eq_true, Bool.true_eq_false, Bool.not_true, Bool.not_false, beq_self_eq_true, decide_true, decide_false, Int.reduceNeg, Int.reduceLT, Int.reduceLE, Int.reduceEq, Int.reduceToNat, Int.reducePow, Nat.reducePow, Nat.min_eq_left, Nat.min_eq_right, Int.reduceMul, Int.reduceAdd, Int.reduceSub, Int.reduceBEq, Int.reduceBNe, bne_self_eq_false, beq_true, beq_false])
    | ((with_reducible refine And.intro (fun hg => ?_) (fun hg => ?_)); all_goals (try simp only [Bool.not_eq_true', Bool.not_eq_false'] at hg; try simp only [hg, Bool.not_true, Bool.not_false, true_implies, false_implies, implies_true, reduceCtorEq, and_true, true_and, Bool.false_eq_true, Bool.true_eq_false, if_true, if_false]))
  all_goals refine retQ_bool rfl ?_
  all_goals rfl

end Go.Proofs.Ytjidlifijngcpaa
