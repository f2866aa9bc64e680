/-
  How two quotients stand to each other, walked.
-/
import Derived.Test.YteajjckbjgmhaaaTab
import Derived.Test.YteajjckbjgmhaaaAM37
import Derived.KernelRfl
import Derived.Lib.Mul64
import Derived.Laws.Bits64b
namespace Go.Proofs.Yteajjckbjgmhaaa
open Go Go.AM
set_option maxHeartbeats 1000000
set_option linter.unusedSimpArgs false
set_option linter.unusedVariables false
attribute [local go_sem] ty3 ty4 ty9 ty22 ty26 ty33 ty34 ty38 eg38 si38 ty39 eg39 si39 ty43 eg43 si43 ty44 eg44 si44 ty51 ty56 eg56 si56 ty57 eg57 si57 ty62 ty63 eg63 si63 ty64 eg64 si64 ty69 ty77

theorem wrap_id {x : Int} (h0 : 0 ≤ x) (h1 : x < 18446744073709551616) : IntKind.u64.wrap x = x := by
  rw [IntKind.wrap_u64]; omega

theorem over_ok (a : Int) : PCall Try.prog 46 [.int .u64 a] (· = .int .i64 (if a = 0 then 1 else 0)) := by
  refine PCall_intro (c := Try.f46.body.getD .skip) Try.func46 rfl (by decide +kernel) (by simp [Fz.int_iff, Fz.bool_iff, Fz.agg_iff, Fz.str_iff, ri_fz_iff]) (W_start ?_)
  simp only [Try.f46, go_sem, Nat.reduceAdd, Nat.reduceSub]
  repeat' first
    | with_reducible first | refine W_seq ?_ | refine W_block ?_ | refine W_skip ?_ | refine N_code ?_ | refine N_blk ?_ | refine W_exit ?_ | refine E_blk ?_ | refine E_code ?_ | refine E_blk_ne (by decide) ?_ | refine W_ret ?_ | refine R_code ?_ | refine R_blk ?_ | refine R_nil ?_ | refine L_exit ?_ | refine L_ret ?_ | refine F_ret ?_ | refine F_out (by decide) ?_ | refine FW_ret ?_ | refine FW_out (by decide) ?_
    | ((with_reducible apply W_condE); (case hb => exact rfl); (case e1 => (dsimp only [putT, List.set_cons_succ, List.set_cons_zero] <;> exact rfl)); (case e2 => (dsimp only [putT, List.set_cons_succ, List.set_cons_zero] <;> exact rfl)); all_goals (intro hb; first | (exfalso; revert hb; simp; done) | (exfalso; simp at hb; omega) | simp only [beq_iff_eq, beq_eq_false_iff_ne, bne_iff_ne, bne_eq_false_iff_eq, ne_eq, decide_eq_true_eq, decide_eq_false_iff_not, Int.not_lt, Int.not_le] at hb | skip))
    | (with_reducible refine W_reg fun K hK => ?_)
    | (with_reducible refine W_drwR rfl mixed (by decide +kernel) fun K hK => ?_)
    | (with_reducible refine W_drw mixed (by decide +kernel) fun K hK => ?_)
    | ((with_reducible refine AO_nil (hK _ ?_)); clear hK K)
    | ((with_reducible first | apply AO_mvE | apply V_mvE | apply D_mvE); (case hop => exact rfl); (case hg => first | exact guardA_none rfl | exact guardA_yes rfl rfl rfl (by with_reducible rfl)); (try case hw => exact rfl); (try case hl => first | exact touched_nil rfl | exact touched_one rfl (by omega)); (case hy => exact rfl); (case ht => (dsimp only [putT, List.set_cons_succ, List.set_cons_zero] <;> exact rfl)); (case hn => first | (simp only [Nat.reduceAdd]; exact rfl) | exact rfl); (try case hc => exact rfl))
    | ((with_reducible first | apply AO_stepE | apply V_stepE | apply D_stepE); (case hg => first | exact guardA_none rfl | exact guardA_yes rfl rfl rfl (by with_reducible rfl)); (try case hw => exact rfl); (try case hl => first | exact touched_nil rfl | exact touched_one rfl (by omega)); (case hs => simp (maxSteps := 2000000) only [go_sem, reduceCtorEq, reduceIte, Nat.reduceAdd, Nat.reduceSub, Nat.reduceMul, Nat.reduceLT, Nat.reduceLeDiff, Nat.reduceEqDiff, Nat.reduceBEq, Nat.reducePow, Int.reduceNeg, Int.reduceLT, Int.reduceLE, Int.reduceEq, Int.reduceToNat, Int.reducePow, Int.reduceMul, Int.reduceAdd, Int.reduceSub, Int.reduceBEq, Int.reduceBNe]; exact rfl); (case ht => (dsimp only [putT, List.set_cons_succ, List.set_cons_zero] <;> exact rfl)); (case hn => first | (simp only [Nat.reduceAdd]; exact rfl) | exact rfl); (try case hc => exact rfl))
    | ((with_reducible first | apply AO_skipE | apply V_skipE | apply D_skipE); (case hg => first | exact guardA_gone rfl rfl rfl | exact guardA_noT rfl rfl rfl (by with_reducible rfl) | exact guardA_noF rfl rfl rfl (by with_reducible rfl)); (case ht => (dsimp only [putT, List.set_cons_succ, List.set_cons_zero] <;> exact rfl)); (case hn => first | (simp only [Nat.reduceAdd]; exact rfl) | exact rfl); (try case hc => exact rfl))
    | ((with_reducible first | apply V_end | apply D_end); (case hi => exact rfl); (try case hind => first | exact indepB_old hnx (by omega) (by kernel_rfl) (by kernel_rfl) | kernel_rfl); (case hn => first | (simp only [Nat.reduceAdd]; exact rfl) | exact rfl); (with_reducible refine hK _ ?_); clear hK K)
    | ((fail_if_success ((with_reducible first | apply AO_stepE | apply V_stepE | apply D_stepE); (case hg => first | exact guardA_none rfl | exact guardA_yes rfl rfl rfl (by with_reducible rfl)))); (fail_if_success ((with_reducible first | apply AO_skipE | apply V_skipE | apply D_skipE); (case hg => first | exact guardA_gone rfl rfl rfl | exact guardA_noT rfl rfl rfl (by with_reducible rfl) | exact guardA_noF rfl rfl rfl (by with_reducible rfl)))); (with_reducible first | apply AO_split | apply V_split | apply D_split); (case hg => exact rfl); (case hd => exact rfl); (case hb => exact rfl); (case e1 => (dsimp only [putT, List.set_cons_succ, List.set_cons_zero] <;> exact rfl)); (case e2 => (dsimp only [putT, List.set_cons_succ, List.set_cons_zero] <;> exact rfl)); all_goals intro hg)
  all_goals (refine retQ_int rfl ?_; simp [*])

theorem sign_ok (a : Bool) : PCall Try.prog 48 [.bool a] (· = .int .i64 (if a = true then 1 else -1)) := by
  refine PCall_intro (c := Try.f48.body.getD .skip) Try.func48 rfl (by decide +kernel) (by simp [Fz.int_iff, Fz.bool_iff, Fz.agg_iff, Fz.str_iff, ri_fz_iff]) (W_start ?_)
  simp only [Try.f48, go_sem, Nat.reduceAdd, Nat.reduceSub]
  repeat' first
    | with_reducible first | refine W_seq ?_ | refine W_block ?_ | refine W_skip ?_ | refine N_code ?_ | refine N_blk ?_ | refine W_exit ?_ | refine E_blk ?_ | refine E_code ?_ | refine E_blk_ne (by decide) ?_ | refine W_ret ?_ | refine R_code ?_ | refine R_blk ?_ | refine R_nil ?_ | refine L_exit ?_ | refine L_ret ?_ | refine F_ret ?_ | refine F_out (by decide) ?_ | refine FW_ret ?_ | refine FW_out (by decide) ?_
    | ((with_reducible apply W_condE); (case hb => exact rfl); (case e1 => (dsimp only [putT, List.set_cons_succ, List.set_cons_zero] <;> exact rfl)); (case e2 => (dsimp only [putT, List.set_cons_succ, List.set_cons_zero] <;> exact rfl)); all_goals (intro hb; first | (exfalso; revert hb; simp; done) | (exfalso; simp at hb; omega) | simp only [beq_iff_eq, beq_eq_false_iff_ne, bne_iff_ne, bne_eq_false_iff_eq, ne_eq, decide_eq_true_eq, decide_eq_false_iff_not, Int.not_lt, Int.not_le] at hb | skip))
    | (with_reducible refine W_reg fun K hK => ?_)
    | (with_reducible refine W_drwR rfl mixed (by decide +kernel) fun K hK => ?_)
    | (with_reducible refine W_drw mixed (by decide +kernel) fun K hK => ?_)
    | ((with_reducible refine AO_nil (hK _ ?_)); clear hK K)
    | ((with_reducible first | apply AO_mvE | apply V_mvE | apply D_mvE); (case hop => exact rfl); (case hg => first | exact guardA_none rfl | exact guardA_yes rfl rfl rfl (by with_reducible rfl)); (try case hw => exact rfl); (try case hl => first | exact touched_nil rfl | exact touched_one rfl (by omega)); (case hy => exact rfl); (case ht => (dsimp only [putT, List.set_cons_succ, List.set_cons_zero] <;> exact rfl)); (case hn => first | (simp only [Nat.reduceAdd]; exact rfl) | exact rfl); (try case hc => exact rfl))
    | ((with_reducible first | apply AO_stepE | apply V_stepE | apply D_stepE); (case hg => first | exact guardA_none rfl | exact guardA_yes rfl rfl rfl (by with_reducible rfl)); (try case hw => exact rfl); (try case hl => first | exact touched_nil rfl | exact touched_one rfl (by omega)); (case hs => simp (maxSteps := 2000000) only [go_sem, reduceCtorEq, reduceIte, Nat.reduceAdd, Nat.reduceSub, Nat.reduceMul, Nat.reduceLT, Nat.reduceLeDiff, Nat.reduceEqDiff, Nat.reduceBEq, Nat.reducePow, Int.reduceNeg, Int.reduceLT, Int.reduceLE, Int.reduceEq, Int.reduceToNat, Int.reducePow, Int.reduceMul, Int.reduceAdd, Int.reduceSub, Int.reduceBEq, Int.reduceBNe]; exact rfl); (case ht => (dsimp only [putT, List.set_cons_succ, List.set_cons_zero] <;> exact rfl)); (case hn => first | (simp only [Nat.reduceAdd]; exact rfl) | exact rfl); (try case hc => exact rfl))
    | ((with_reducible first | apply AO_skipE | apply V_skipE | apply D_skipE); (case hg => first | exact guardA_gone rfl rfl rfl | exact guardA_noT rfl rfl rfl (by with_reducible rfl) | exact guardA_noF rfl rfl rfl (by with_reducible rfl)); (case ht => (dsimp only [putT, List.set_cons_succ, List.set_cons_zero] <;> exact rfl)); (case hn => first | (simp only [Nat.reduceAdd]; exact rfl) | exact rfl); (try case hc => exact rfl))
    | ((with_reducible first | apply V_end | apply D_end); (case hi => exact rfl); (try case hind => first | exact indepB_old hnx (by omega) (by kernel_rfl) (by kernel_rfl) | kernel_rfl); (case hn => first | (simp only [Nat.reduceAdd]; exact rfl) | exact rfl); (with_reducible refine hK _ ?_); clear hK K)
    | ((fail_if_success ((with_reducible first | apply AO_stepE | apply V_stepE | apply D_stepE); (case hg => first | exact guardA_none rfl | exact guardA_yes rfl rfl rfl (by with_reducible rfl)))); (fail_if_success ((with_reducible first | apply AO_skipE | apply V_skipE | apply D_skipE); (case hg => first | exact guardA_gone rfl rfl rfl | exact guardA_noT rfl rfl rfl (by with_reducible rfl) | exact guardA_noF rfl rfl rfl (by with_reducible rfl)))); (with_reducible first | apply AO_split | apply V_split | apply D_split); (case hg => exact rfl); (case hd => exact rfl); (case hb => exact rfl); (case e1 => (dsimp only [putT, List.set_cons_succ, List.set_cons_zero] <;> exact rfl)); (case e2 => (dsimp only [putT, List.set_cons_succ, List.set_cons_zero] <;> exact rfl)); all_goals intro hg)
  all_goals (refine retQ_int rfl ?_; simp [*])

theorem maskN (a : Nat) (ha : a < 18446744073709551616) : band .u64 a 4294967295 = ((a % 4294967296 : Nat) : Int) := by
  have h := bits_and_u64_nat a 4294967295 ha (by omega)
  have e : a &&& 4294967295 = a % 4294967296 := Nat.and_two_pow_sub_one_eq_mod a 32
  rw [e] at h
  exact h

theorem fdN (a : Nat) : (a : Int).fdiv 4294967296 = ((a / 4294967296 : Nat) : Int) := by
  rw [Int.fdiv_eq_ediv_of_nonneg _ (by omega)]; omega

theorem mulN (a b : Nat) : (a : Int) * (b : Int) = ((a * b : Nat) : Int) := (Int.natCast_mul a b).symm

theorem addN (a b : Nat) : (a : Int) + (b : Int) = ((a + b : Nat) : Int) := (Int.natCast_add a b).symm

theorem wrapN (a : Nat) (ha : a < 18446744073709551616) : IntKind.u64.wrap (a : Int) = (a : Int) := by rw [IntKind.wrap_u64]; omega

theorem wrapM (a : Nat) : IntKind.u64.wrap (a : Int) = ((a % 18446744073709551616 : Nat) : Int) := by rw [IntKind.wrap_u64]; omega

theorem mul64N (x y : Nat) (hx : x < 18446744073709551616) (hy : y < 18446744073709551616) : PCall Try.prog 47 [.int .u64 x, .int .u64 y] (· = .tuple [.int .u64 ((x * y / 18446744073709551616 : Nat) : Int), .int .u64 ((x * y % 18446744073709551616 : Nat) : Int)]) := by
  refine PCall_intro (c := Try.f47.body.getD .skip) Try.func47 rfl (by decide +kernel) (by simp [Fz.int_iff, Fz.bool_iff, Fz.agg_iff, Fz.str_iff, ri_fz_iff]) (W_start ?_)
  simp only [Try.f47, go_sem, Nat.reduceAdd, Nat.reduceSub]
  repeat' first
    | with_reducible first | refine W_seq ?_ | refine W_block ?_ | refine W_skip ?_ | refine N_code ?_ | refine N_blk ?_ | refine W_exit ?_ | refine E_blk ?_ | refine E_code ?_ | refine E_blk_ne (by decide) ?_ | refine W_ret ?_ | refine R_code ?_ | refine R_blk ?_ | refine R_nil ?_ | refine L_exit ?_ | refine L_ret ?_ | refine F_ret ?_ | refine F_out (by decide) ?_ | refine FW_ret ?_ | refine FW_out (by decide) ?_
    | ((with_reducible apply W_condE); (case hb => exact rfl); (case e1 => (dsimp only [putT, List.set_cons_succ, List.set_cons_zero] <;> exact rfl)); (case e2 => (dsimp only [putT, List.set_cons_succ, List.set_cons_zero] <;> exact rfl)); all_goals (intro hb; first | (exfalso; revert hb; simp; done) | (exfalso; simp at hb; omega) | simp only [beq_iff_eq, beq_eq_false_iff_ne, bne_iff_ne, bne_eq_false_iff_eq, ne_eq, decide_eq_true_eq, decide_eq_false_iff_not, Int.not_lt, Int.not_le] at hb | skip))
    | (with_reducible refine W_reg fun K hK => ?_)
    | (with_reducible refine W_drwR rfl mixed (by decide +kernel) fun K hK => ?_)
    | (with_reducible refine W_drw mixed (by decide +kernel) fun K hK => ?_)
    | ((with_reducible refine AO_nil (hK _ ?_)); clear hK K)
    | ((with_reducible first | apply AO_mvE | apply V_mvE | apply D_mvE); (case hop => exact rfl); (case hg => first | exact guardA_none rfl | exact guardA_yes rfl rfl rfl (by with_reducible rfl)); (try case hw => exact rfl); (try case hl => first | exact touched_nil rfl | exact touched_one rfl (by omega)); (case hy => exact rfl); (case ht => (dsimp only [putT, List.set_cons_succ, List.set_cons_zero] <;> exact rfl)); (case hn => first | (simp only [Nat.reduceAdd]; exact rfl) | exact rfl); (try case hc => exact rfl))
    | ((with_reducible first | apply AO_stepE | apply V_stepE | apply D_stepE); (case hg => first | exact guardA_none rfl | exact guardA_yes rfl rfl rfl (by with_reducible rfl)); (try case hw => exact rfl); (try case hl => first | exact touched_nil rfl | exact touched_one rfl (by omega)); (case hs => simp (maxSteps := 2000000) only [go_sem, reduceCtorEq, reduceIte, Nat.reduceAdd, Nat.reduceSub, Nat.reduceMul, Nat.reduceLT, Nat.reduceLeDiff, Nat.reduceEqDiff, Nat.reduceBEq, Nat.reducePow, Int.reduceNeg, Int.reduceLT, Int.reduceLE, Int.reduceEq, Int.reduceToNat, Int.reducePow, Int.reduceMul, Int.reduceAdd, Int.reduceSub, Int.reduceBEq, Int.reduceBNe]; exact rfl); (case ht => (dsimp only [putT, List.set_cons_succ, List.set_cons_zero] <;> exact rfl)); (case hn => first | (simp only [Nat.reduceAdd]; exact rfl) | exact rfl); (try case hc => exact rfl))
    | ((with_reducible first | apply AO_skipE | apply V_skipE | apply D_skipE); (case hg => first | exact guardA_gone rfl rfl rfl | exact guardA_noT rfl rfl rfl (by with_reducible rfl) | exact guardA_noF rfl rfl rfl (by with_reducible rfl)); (case ht => (dsimp only [putT, List.set_cons_succ, List.set_cons_zero] <;> exact rfl)); (case hn => first | (simp only [Nat.reduceAdd]; exact rfl) | exact rfl); (try case hc => exact rfl))
    | ((with_reducible first | apply V_end | apply D_end); (case hi => exact rfl); (try case hind => first | exact indepB_old hnx (by omega) (by kernel_rfl) (by kernel_rfl) | kernel_rfl); (case hn => first | (simp only [Nat.reduceAdd]; exact rfl) | exact rfl); (with_reducible refine hK _ ?_); clear hK K)
    | ((fail_if_success ((with_reducible first | apply AO_stepE | apply V_stepE | apply D_stepE); (case hg => first | exact guardA_none rfl | exact guardA_yes rfl rfl rfl (by with_reducible rfl)))); (fail_if_success ((with_reducible first | apply AO_skipE | apply V_skipE | apply D_skipE); (case hg => first | exact guardA_gone rfl rfl rfl | exact guardA_noT rfl rfl rfl (by with_reducible rfl) | exact guardA_noF rfl rfl rfl (by with_reducible rfl)))); (with_reducible first | apply AO_split | apply V_split | apply D_split); (case hg => exact rfl); (case hd => exact rfl); (case hb => exact rfl); (case e1 => (dsimp only [putT, List.set_cons_succ, List.set_cons_zero] <;> exact rfl)); (case e2 => (dsimp only [putT, List.set_cons_succ, List.set_cons_zero] <;> exact rfl)); all_goals intro hg)
  refine retQ_int2 rfl rfl ?_
  obtain ⟨bd, bt, bw, hhi⟩ := Lib.mul64_hi x y hx hy
  have ba := Lib.half_mul_le (a := x / 4294967296) (b := y / 4294967296) (by omega) (by omega)
  have bb := Lib.half_mul_le (a := x / 4294967296) (b := y % 4294967296) (by omega) (by omega)
  have bc := Lib.half_mul_le (a := x % 4294967296) (b := y / 4294967296) (by omega) (by omega)
  have ba' : x / 4294967296 * (y / 4294967296) < 18446744073709551616 := by omega
  have bb' : x / 4294967296 * (y % 4294967296) < 18446744073709551616 := by omega
  have bc' : x % 4294967296 * (y / 4294967296) < 18446744073709551616 := by omega
  have bh1 : x / 4294967296 * (y / 4294967296) + (x / 4294967296 * (y % 4294967296) + x % 4294967296 * (y % 4294967296) / 4294967296) / 4294967296 < 18446744073709551616 := by omega
  have bh : x / 4294967296 * (y / 4294967296) + (x / 4294967296 * (y % 4294967296) + x % 4294967296 * (y % 4294967296) / 4294967296) / 4294967296 + ((x / 4294967296 * (y % 4294967296) + x % 4294967296 * (y % 4294967296) / 4294967296) % 4294967296 + x % 4294967296 * (y / 4294967296)) / 4294967296 < 18446744073709551616 := by omega
  simp only [maskN x hx, maskN y hy, fdN, mulN, addN, wrapN _ bd, wrapN _ bb', wrapN _ bt, maskN _ bt, wrapN _ bc', wrapN _ bw, wrapN _ ba', wrapN _ bh1, wrapN _ bh, wrapM (x * y)]
  rw [hhi]

theorem mul64_ok (x y : Int) (hx : 0 ≤ x ∧ x < 18446744073709551616) (hy : 0 ≤ y ∧ y < 18446744073709551616) : PCall Try.prog 47 [.int .u64 x, .int .u64 y] (· = .tuple [.int .u64 (x * y / 18446744073709551616), .int .u64 (x * y % 18446744073709551616)]) := by
  obtain ⟨a, rfl⟩ : ∃ a : Nat, x = a := ⟨x.toNat, by omega⟩
  obtain ⟨b, rfl⟩ : ∃ b : Nat, y = b := ⟨y.toNat, by omega⟩
  have h := mul64N a b (by omega) (by omega)
  rw [Int.natCast_ediv, Int.natCast_emod, Int.natCast_mul] at h
  exact h

theorem cmp_ok (a b c d : Int) (ha : 0 ≤ a ∧ a < 18446744073709551616) (hb0 : 0 ≤ b ∧ b < 18446744073709551616) (hc0 : 0 ≤ c ∧ c < 18446744073709551616) (hd0 : 0 ≤ d ∧ d < 18446744073709551616) :
    PCall Try.prog 44 [.int .u64 a, .int .u64 b, .int .u64 c, .int .u64 d] (· = .int .i64 (if b = 0 then if d = 0 then 0 else 1 else if d = 0 then -1 else if a * d < c * b then -1 else if c * b < a * d then 1 else 0)) := by
  have i1 := mul64_ok a d ha hd0
  have i2 := mul64_ok c b hc0 hb0
  generalize a * d = p at *
  generalize c * b = q at *
  refine PCall_intro (c := Try.f44.body.getD .skip) Try.func44 rfl (by decide +kernel) (by simp [Fz.int_iff, Fz.bool_iff, Fz.agg_iff, Fz.str_iff, ri_fz_iff]) (W_start ?_)
  simp only [Try.f44, go_sem, Nat.reduceAdd, Nat.reduceSub]
  repeat' first
    | with_reducible first | refine W_seq ?_ | refine W_block ?_ | refine W_skip ?_ | refine N_code ?_ | refine N_blk ?_ | refine W_exit ?_ | refine E_blk ?_ | refine E_code ?_ | refine E_blk_ne (by decide) ?_ | refine W_ret ?_ | refine R_code ?_ | refine R_blk ?_ | refine R_nil ?_ | refine L_exit ?_ | refine L_ret ?_ | refine F_ret ?_ | refine F_out (by decide) ?_ | refine FW_ret ?_ | refine FW_out (by decide) ?_
    | ((with_reducible apply W_condE); (case hb => exact rfl); (case e1 => (dsimp only [putT, List.set_cons_succ, List.set_cons_zero] <;> exact rfl)); (case e2 => (dsimp only [putT, List.set_cons_succ, List.set_cons_zero] <;> exact rfl)); all_goals (intro hb; first | (exfalso; revert hb; simp; done) | (exfalso; simp at hb; omega) | simp only [beq_iff_eq, beq_eq_false_iff_ne, bne_iff_ne, bne_eq_false_iff_eq, ne_eq, decide_eq_true_eq, decide_eq_false_iff_not, Int.not_lt, Int.not_le] at hb | skip))
    | (with_reducible refine W_reg fun K hK => ?_)
    | (with_reducible refine W_drwR rfl mixed (by decide +kernel) fun K hK => ?_)
    | (with_reducible refine W_drw mixed (by decide +kernel) fun K hK => ?_)
    | ((with_reducible refine AO_nil (hK _ ?_)); clear hK K)
    | ((with_reducible first | apply AO_mvE | apply V_mvE | apply D_mvE); (case hop => exact rfl); (case hg => first | exact guardA_none rfl | exact guardA_yes rfl rfl rfl (by with_reducible rfl)); (try case hw => exact rfl); (try case hl => first | exact touched_nil rfl | exact touched_one rfl (by omega)); (case hy => exact rfl); (case ht => (dsimp only [putT, List.set_cons_succ, List.set_cons_zero] <;> exact rfl)); (case hn => first | (simp only [Nat.reduceAdd]; exact rfl) | exact rfl); (try case hc => exact rfl))
    | ((with_reducible first | apply AO_stepE | apply V_stepE | apply D_stepE); (case hg => first | exact guardA_none rfl | exact guardA_yes rfl rfl rfl (by with_reducible rfl)); (try case hw => exact rfl); (try case hl => first | exact touched_nil rfl | exact touched_one rfl (by omega)); (case hs => simp (maxSteps := 2000000) only [go_sem, reduceCtorEq, reduceIte, Nat.reduceAdd, Nat.reduceSub, Nat.reduceMul, Nat.reduceLT, Nat.reduceLeDiff, Nat.reduceEqDiff, Nat.reduceBEq, Nat.reducePow, Int.reduceNeg, Int.reduceLT, Int.reduceLE, Int.reduceEq, Int.reduceToNat, Int.reducePow, Int.reduceMul, Int.reduceAdd, Int.reduceSub, Int.reduceBEq, Int.reduceBNe]; exact rfl); (case ht => (dsimp only [putT, List.set_cons_succ, List.set_cons_zero] <;> exact rfl)); (case hn => first | (simp only [Nat.reduceAdd]; exact rfl) | exact rfl); (try case hc => exact rfl))
    | ((with_reducible first | apply AO_skipE | apply V_skipE | apply D_skipE); (case hg => first | exact guardA_gone rfl rfl rfl | exact guardA_noT rfl rfl rfl (by with_reducible rfl) | exact guardA_noF rfl rfl rfl (by with_reducible rfl)); (case ht => (dsimp only [putT, List.set_cons_succ, List.set_cons_zero] <;> exact rfl)); (case hn => first | (simp only [Nat.reduceAdd]; exact rfl) | exact rfl); (try case hc => exact rfl))
    | ((with_reducible first | apply V_end | apply D_end); (case hi => exact rfl); (try case hind => first | exact indepB_old hnx (by omega) (by kernel_rfl) (by kernel_rfl) | kernel_rfl); (case hn => first | (simp only [Nat.reduceAdd]; exact rfl) | exact rfl); (with_reducible refine hK _ ?_); clear hK K)
    | ((with_reducible first | apply AO_callE | apply V_callE | apply D_callE); (case hg => first | exact guardA_none rfl | exact guardA_yes rfl rfl rfl (by with_reducible rfl)); (case ho => exact rfl); (case ht => exact rfl); (case hp' => first | exact over_ok _ | exact sign_ok _ | exact i1 | exact i2); (case htm => (dsimp only [putT, List.set_cons_succ, List.set_cons_zero] <;> exact rfl)); (case hn => first | (simp only [Nat.reduceAdd]; exact rfl) | exact rfl); (try case hc => exact rfl))
    | ((fail_if_success ((with_reducible first | apply AO_stepE | apply V_stepE | apply D_stepE); (case hg => first | exact guardA_none rfl | exact guardA_yes rfl rfl rfl (by with_reducible rfl)))); (fail_if_success ((with_reducible first | apply AO_skipE | apply V_skipE | apply D_skipE); (case hg => first | exact guardA_gone rfl rfl rfl | exact guardA_noT rfl rfl rfl (by with_reducible rfl) | exact guardA_noF rfl rfl rfl (by with_reducible rfl)))); (with_reducible first | apply AO_split | apply V_split | apply D_split); (case hg => exact rfl); (case hd => exact rfl); (case hb => exact rfl); (case e1 => (dsimp only [putT, List.set_cons_succ, List.set_cons_zero] <;> exact rfl)); (case e2 => (dsimp only [putT, List.set_cons_succ, List.set_cons_zero] <;> exact rfl)); all_goals intro hg)
  all_goals refine retQ_int rfl ?_
  all_goals congr 1
  all_goals simp only [beq_iff_eq, beq_eq_false_iff_ne, ne_eq, decide_eq_true_eq] at *
  all_goals (repeat' split) <;> first | omega | rfl

end Go.Proofs.Yteajjckbjgmhaaa
