/-
  The length of a number in bits, and its leading zeros: walked as the kit's shelf does.
-/
import Derived.Test.YtjidlifijngcpaaF4
import Derived.Test.YtjidlifijngcpaaF50
import Derived.Lib.Strings
import Derived.Lib.Slices
import Derived.Lib.Small
import Derived.Lib.Walk
import Derived.Lib.BitFns
import Derived.Lib.ItoaNum
namespace Go.Proofs.Ytjidlifijngcpaa
open Go Go.AM

theorem len64_ok (x : Int) (h0 : 0 ≤ x) (h1 : x ≤ 18446744073709551615) : PCall Try.prog 31 [.int .u64 x] (· = .int .i64 (Lib.bitLen x.toNat)) := by
  refine ⟨⟨Try.f31, Try.func31, by decide +kernel, by decide +kernel⟩, fun ext w vs _ hl hr => ?_⟩
  obtain ⟨v, rfl⟩ : ∃ v, vs = #[v] := by
    obtain ⟨l⟩ := vs
    match l, hl with
    | [v], _ => exact ⟨v, rfl⟩
  have hv := hr 0 _ v rfl rfl
  cases hv
  refine (Try.calls_len64 x w h0 h1).mono ?_
  rintro e w' ⟨rfl, rfl⟩
  exact ⟨_, _, rfl, rfl, .int _ _, .int _ _, Evo.refl _ _⟩

set_option maxHeartbeats 1000000
set_option linter.unusedSimpArgs false
attribute [local go_sem] ty3 ty4 ty22 ty39 ty43 eg39 si39 ty28 eg28

theorem lz64_ok (x : Int) (h0 : 0 < x) (h1 : x ≤ 18446744073709551615) : PCall Try.prog 30 [.int .u64 x] (· = .int .i64 (64 - (Lib.bitLen x.toNat : Int))) := by
  have l := Lib.bitLen_le x.toNat 64 (by omega) (by omega)
  have e : IntKind.i64.wrap (64 - (Lib.bitLen x.toNat : Int)) = 64 - (Lib.bitLen x.toNat : Int) := by rw [IntKind.wrap_i64]; omega
  refine PCall_intro (c := Try.f30.body.getD .skip) Try.func30 rfl (by decide +kernel) (by simp [Fz.int_iff, Fz.bool_iff, Fz.agg_iff, Fz.str_iff]) (W_start ?_)
  simp only [Try.f30, go_sem, Nat.reduceAdd, Nat.reduceSub]
  repeat' first
    | with_reducible refine W_seq ?_
    | with_reducible refine W_block ?_
    | with_reducible refine W_skip ?_
    | with_reducible refine N_code ?_
    | with_reducible refine N_blk ?_
    | with_reducible refine W_exit ?_
    | with_reducible refine E_blk ?_
    | with_reducible refine E_code ?_
    | with_reducible refine E_blk_ne (by decide) ?_
    | with_reducible refine W_ret ?_
    | with_reducible refine R_code ?_
    | with_reducible refine R_blk ?_
    | with_reducible refine R_nil ?_
    | with_reducible refine L_exit ?_
    | with_reducible refine L_ret ?_
    | ((with_reducible apply W_condE); (case hb => exact rfl); (case e1 => simp only [putT, List.set_cons_succ, List.set_cons_zero]; exact rfl); (case e2 => simp only [putT, List.set_cons_succ, List.set_cons_zero]; exact rfl); all_goals (intro hb; first | (exfalso; revert hb; simp; done) | (exfalso; simp at hb; omega) | simp only [beq_iff_eq, beq_eq_false_iff_ne, bne_iff_ne, bne_eq_false_iff_eq, ne_eq, decide_eq_true_eq, decide_eq_false_iff_not, Int.not_lt, Int.not_le] at hb | skip))
    | (with_reducible refine W_reg fun K hK => ?_)
    | (with_reducible refine W_drw mixed (by decide +kernel) fun K hK => ?_)
    | ((with_reducible refine AO_nil (hK _ ?_)); clear hK K)
    | ((with_reducible apply AO_stepE); (case hg => first | exact guardA_none rfl | exact guardA_yes rfl rfl rfl (by with_reducible rfl)); (case hs => simp (maxSteps := 2000000) only [go_sem, true_implies, false_implies, implies_true, reduceCtorEq, and_true, true_and, Nat.reduceAdd, Nat.reduceSub, Nat.reduceMul, Nat.reduceLT, Nat.reduceLeDiff, Nat.reduceEqDiff, Nat.reduceBEq, if_true, if_false, ite_true, ite_false, reduceIte, Bool.false_eq_true, Bool.true_eq_false, Bool.not_true, Bool.not_false, beq_self_eq_true, decide_true, decide_false, Int.reduceNeg, Int.reduceLT, Int.reduceLE, Int.reduceEq, Int.reduceToNat, Int.reducePow, Nat.reducePow, Nat.min_eq_left, Nat.min_eq_right, Int.reduceMul, Int.reduceAdd, Int.reduceSub, Int.reduceBEq, Int.reduceBNe, bne_self_eq_false, beq_true, beq_false]; exact rfl); (case ht => simp only [putT, List.set_cons_succ, List.set_cons_zero]; exact rfl); (case hn => first | (simp only [Nat.reduceAdd]; exact rfl) | exact rfl))
    | ((with_reducible apply AO_skipE); (case hg => first | exact guardA_gone rfl rfl rfl | exact guardA_noT rfl rfl rfl (by with_reducible rfl) | exact guardA_noF rfl rfl rfl (by with_reducible rfl)); (case ht => simp only [putT, List.set_cons_succ, List.set_cons_zero]; exact rfl); (case hn => first | (simp only [Nat.reduceAdd]; exact rfl) | exact rfl))
    | ((with_reducible apply D_end); (case hi => exact rfl); (case hind => kernel_rfl); (case hn => first | (simp only [Nat.reduceAdd]; exact rfl) | exact rfl); (with_reducible refine hK _ ?_); clear hK K)
    | ((with_reducible apply D_stepE); (case hg => first | exact guardA_none rfl | exact guardA_yes rfl rfl rfl (by with_reducible rfl)); (case hs => simp (maxSteps := 2000000) only [go_sem, true_implies, false_implies, implies_true, reduceCtorEq, and_true, true_and, Nat.reduceAdd, Nat.reduceSub, Nat.reduceMul, Nat.reduceLT, Nat.reduceLeDiff, Nat.reduceEqDiff, Nat.reduceBEq, if_true, if_false, ite_true, ite_false, reduceIte, Bool.false_eq_true, Bool.true_eq_false, Bool.not_true, Bool.not_false, beq_self_eq_true, decide_true, decide_false, Int.reduceNeg, Int.reduceLT, Int.reduceLE, Int.reduceEq, Int.reduceToNat, Int.reducePow, Nat.reducePow, Nat.min_eq_left, Nat.min_eq_right, Int.reduceMul, Int.reduceAdd, Int.reduceSub, Int.reduceBEq, Int.reduceBNe, bne_self_eq_false, beq_true, beq_false]; exact rfl); (case ht => simp only [putT, List.set_cons_succ, List.set_cons_zero]; exact rfl); (case hn => first | (simp only [Nat.reduceAdd]; exact rfl) | exact rfl); (case hc => exact rfl))
    | ((with_reducible apply D_skipE); (case hg => first | exact guardA_gone rfl rfl rfl | exact guardA_noT rfl rfl rfl (by with_reducible rfl) | exact guardA_noF rfl rfl rfl (by with_reducible rfl)); (case ht => simp only [putT, List.set_cons_succ, List.set_cons_zero]; exact rfl); (case hn => first | (simp only [Nat.reduceAdd]; exact rfl) | exact rfl); (case hc => exact rfl))
    | ((with_reducible apply AO_callE); (case hg => first | exact guardA_none rfl | exact guardA_yes rfl rfl rfl (by with_reducible rfl)); (case ho => exact rfl); (case ht => exact rfl); (case hp' => first | exact len64_ok _ (by omega) (by omega)); (case htm => simp only [putT, List.set_cons_succ, List.set_cons_zero]; exact rfl); (case hn => first | (simp only [Nat.reduceAdd]; exact rfl) | exact rfl))
    | ((with_reducible apply D_callE); (case hg => first | exact guardA_none rfl | exact guardA_yes rfl rfl rfl (by with_reducible rfl)); (case ho => exact rfl); (case ht => exact rfl); (case hp' => first | exact len64_ok _ (by omega) (by omega)); (case htm => simp only [putT, List.set_cons_succ, List.set_cons_zero]; exact rfl); (case hn => first | (simp only [Nat.reduceAdd]; exact rfl) | exact rfl); (case hc => exact rfl))
    | ((fail_if_success ((with_reducible apply AO_stepE); (case hg => first | exact guardA_none rfl | exact guardA_yes rfl rfl rfl (by with_reducible rfl)))); (fail_if_success ((with_reducible apply AO_skipE); (case hg => first | exact guardA_gone rfl rfl rfl | exact guardA_noT rfl rfl rfl (by with_reducible rfl) | exact guardA_noF rfl rfl rfl (by with_reducible rfl)))); (with_reducible apply AO_split); (case hg => exact rfl); (case hd => exact rfl); (case hb => exact rfl); (case e1 => simp only [putT, List.set_cons_succ, List.set_cons_zero]; exact rfl); (case e2 => simp only [putT, List.set_cons_succ, List.set_cons_zero]; exact rfl); all_goals intro hg)
    | ((fail_if_success ((with_reducible apply D_stepE); (case hg => first | exact guardA_none rfl | exact guardA_yes rfl rfl rfl (by with_reducible rfl)))); (fail_if_success ((with_reducible apply D_skipE); (case hg => first | exact guardA_gone rfl rfl rfl | exact guardA_noT rfl rfl rfl (by with_reducible rfl) | exact guardA_noF rfl rfl rfl (by with_reducible rfl)))); (with_reducible apply D_split); (case hg => exact rfl); (case hd => exact rfl); (case hb => exact rfl); (case e1 => simp only [putT, List.set_cons_succ, List.set_cons_zero]; exact rfl); (case e2 => simp only [putT, List.set_cons_succ, List.set_cons_zero]; exact rfl); all_goals intro hg)
  exact retQ_int rfl (by rw [e])

/-- What is shifted by its leading zeros has its highest bit. -/
theorem bitLen_norm (x : Nat) (h0 : 0 < x) (h1 : x < 18446744073709551616) : ∃ s : Nat, s ≤ 63 ∧ (64 - (Lib.bitLen x : Int)) = s ∧ 9223372036854775808 ≤ x * 2 ^ s ∧ x * 2 ^ s < 18446744073709551616 := by
  obtain ⟨a, b, c⟩ := Lib.bitLenAux_bounds 64 x (by omega) (by omega)
  have l := Lib.bitLen_le x 64 (by omega) (by omega)
  change 1 ≤ Lib.bitLen x at a
  change 2 ^ (Lib.bitLen x - 1) ≤ x at b
  change x < 2 ^ Lib.bitLen x at c
  generalize Lib.bitLen x = L at *
  refine ⟨64 - L, by omega, by omega, ?_, ?_⟩
  · have h := Nat.mul_le_mul_right (2 ^ (64 - L)) b
    rw [← Nat.pow_add, show L - 1 + (64 - L) = 63 by omega] at h
    exact h
  · have h := Nat.mul_lt_mul_of_pos_right c (Nat.pow_pos (n := 64 - L) (by omega : 0 < 2))
    rw [← Nat.pow_add, show L + (64 - L) = 64 by omega] at h
    exact h

end Go.Proofs.Ytjidlifijngcpaa
