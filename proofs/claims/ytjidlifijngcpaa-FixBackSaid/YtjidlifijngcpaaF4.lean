/-
  Quotients stand in one order, walked.
-/
import Derived.Test.YtjidlifijngcpaaF3
import Derived.Test.YtjidlifijngcpaaAM26
namespace Go.Proofs.Ytjidlifijngcpaa
open Go Go.AM
set_option maxHeartbeats 1000000
set_option linter.unusedSimpArgs false
attribute [local go_sem] ty3 ty4 ty22 ty39 ty43 eg39 si39 ty28 eg28

/-- How a over b stands to c over d. -/
def cmpF (a b c d : Int) : Int := if b = 0 then if d = 0 then 0 else 1 else if d = 0 then -1 else if a * d < c * b then -1 else if c * b < a * d then 1 else 0

theorem cmpF_self (a b : Int) : cmpF a b a b = 0 := by unfold cmpF; split <;> simp_all
theorem cmpF_neg (a b c d : Int) : cmpF a b c d = -cmpF c d a b := by
  unfold cmpF
  (repeat' split) <;> omega
theorem cmpF_range (a b c d : Int) : -1 ≤ cmpF a b c d ∧ cmpF a b c d ≤ 1 := by
  unfold cmpF
  (repeat' split) <;> omega

theorem ratio_trans {a b c d e f : Int} (hd : 0 < d) (hb : 0 ≤ b) (hf : 0 ≤ f) (h1 : a * d ≤ c * b) (h2 : c * f ≤ e * d) : a * f ≤ e * b := by
  rcases Int.lt_or_le (e * b) (a * f) with h | h
  · exfalso
    have g1 := Int.mul_lt_mul_of_pos_right h hd
    have g2 := Int.mul_le_mul_of_nonneg_right h1 hf
    have g3 := Int.mul_le_mul_of_nonneg_right h2 hb
    have r1 : a * f * d = a * d * f := Int.mul_right_comm a f d
    have r2 : c * b * f = c * f * b := Int.mul_right_comm c b f
    have r3 : e * d * b = e * b * d := Int.mul_right_comm e d b
    omega
  · exact h

theorem cmpF_chain (a b c d e f : Int) (hb : 0 ≤ b) (hd : 0 ≤ d) (hf : 0 ≤ f) :
    (0 < cmpF a b c d ∨ 0 < cmpF c d e f ∨ cmpF a b e f ≤ 0) ∧ (cmpF a b c d < 0 ∨ cmpF c d e f < 0 ∨ 0 ≤ cmpF a b e f) ∧ (cmpF a b c d ≠ 0 ∨ cmpF a b e f = cmpF c d e f) := by
  by_cases h1 : b = 0
  · subst h1
    unfold cmpF
    (repeat' split) <;> omega
  by_cases h2 : d = 0
  · subst h2
    unfold cmpF
    (repeat' split) <;> omega
  by_cases h3 : f = 0
  · subst h3
    unfold cmpF
    (repeat' split) <;> omega
  have t1 : a * d ≤ c * b → c * f ≤ e * d → a * f ≤ e * b := ratio_trans (by omega) hb hf
  have t2 : e * d ≤ c * f → c * b ≤ a * d → e * b ≤ a * f := ratio_trans (by omega) hf hb
  have t3 : e * b ≤ a * f → a * d ≤ c * b → e * d ≤ c * f := ratio_trans (by omega) hf hd
  have t4 : c * b ≤ a * d → a * f ≤ e * b → c * f ≤ e * d := ratio_trans (by omega) hd hf
  unfold cmpF
  rw [if_neg h1, if_neg h2, if_neg h1, if_neg h3, if_neg h2, if_neg h3]
  generalize a * d = p at *
  generalize c * b = q at *
  generalize c * f = r at *
  generalize e * d = s at *
  generalize a * f = t at *
  generalize e * b = u at *
  refine ⟨?_, ?_, ?_⟩ <;> (repeat' split) <;> omega

theorem cmp_F (a b c d : Int) (ha : 0 ≤ a ∧ a < 18446744073709551616) (hb0 : 0 ≤ b ∧ b < 18446744073709551616) (hc0 : 0 ≤ c ∧ c < 18446744073709551616) (hd0 : 0 ≤ d ∧ d < 18446744073709551616) :
    PCall Try.prog 14 [.int .u64 a, .int .u64 b, .int .u64 c, .int .u64 d] (· = .int .i64 (cmpF a b c d)) := cmp_ok a b c d ha hb0 hc0 hd0

theorem fixChain_ok (a b c d e f : Int) (ha : 0 ≤ a ∧ a < 18446744073709551616) (hb0 : 0 ≤ b ∧ b < 18446744073709551616) (hc0 : 0 ≤ c ∧ c < 18446744073709551616) (hd0 : 0 ≤ d ∧ d < 18446744073709551616)
    (he0 : 0 ≤ e ∧ e < 18446744073709551616) (hf0 : 0 ≤ f ∧ f < 18446744073709551616) : PCall Try.prog 5 [.agg [.int .u64 a, .int .u64 b, .int .u64 c, .int .u64 d, .int .u64 e, .int .u64 f]] (· = .bool true) := by
  have i1 := cmp_F a b c d ha hb0 hc0 hd0
  have i2 := cmp_F c d e f hc0 hd0 he0 hf0
  have i3 := cmp_F a b e f ha hb0 he0 hf0
  have i4 := cmp_F c d a b hc0 hd0 ha hb0
  have i5 := cmp_F a b a b ha hb0 ha hb0
  rw [cmpF_self] at i5
  have n1 := cmpF_neg a b c d
  have ch := cmpF_chain a b c d e f hb0.1 hd0.1 hf0.1
  have r1 := cmpF_range a b c d
  have r2 := cmpF_range c d e f
  have r3 := cmpF_range a b e f
  generalize cmpF c d a b = v at *
  generalize cmpF a b c d = x at *
  generalize cmpF c d e f = y at *
  generalize cmpF a b e f = z at *
  have ev : IntKind.i64.wrap (0 - v) = 0 - v := by rw [IntKind.wrap_i64]; omega
  clear hb0 hd0 hf0 ha hc0 he0
  refine PCall_intro (c := Try.f5.body.getD .skip) Try.func5 rfl (by decide +kernel) (by simp [Fz.int_iff, Fz.bool_iff, Fz.agg_iff, Fz.str_iff]) (W_start ?_)
  simp only [Try.f5, go_sem, Nat.reduceAdd, Nat.reduceSub]
  repeat' first
    | with_reducible refine W_seq ?_
    | with_reducible refine W_block ?_
    | with_reducible refine W_skip ?_
    | with_reducible refine N_code ?_
    | with_reducible refine N_blk ?_
    | with_reducible refine W_exit ?_
    | with_reducible refine E_blk ?_
    | with_reducible refine E_code ?_
    | with_reducible refine E_blk_ne (by decide) ?_
    | with_reducible refine W_ret ?_
    | with_reducible refine R_code ?_
    | with_reducible refine R_blk ?_
    | with_reducible refine R_nil ?_
    | with_reducible refine L_exit ?_
    | with_reducible refine L_ret ?_
    | ((with_reducible apply W_condE); (case hb => exact rfl); (case e1 => simp only [putT, List.set_cons_succ, List.set_cons_zero]; exact rfl); (case e2 => simp only [putT, List.set_cons_succ, List.set_cons_zero]; exact rfl); all_goals (intro hb; first | (exfalso; revert hb; simp; done) | (exfalso; simp at hb; omega) | simp only [beq_iff_eq, beq_eq_false_iff_ne, bne_iff_ne, bne_eq_false_iff_eq, ne_eq, decide_eq_true_eq, decide_eq_false_iff_not, Int.not_lt, Int.not_le] at hb | skip))
    | (with_reducible refine W_reg fun K hK => ?_)
    | (with_reducible refine W_drw mixed (by decide +kernel) fun K hK => ?_)
    | ((with_reducible refine AO_nil (hK _ ?_)); clear hK K)
    | ((with_reducible apply AO_stepE); (case hg => first | exact guardA_none rfl | exact guardA_yes rfl rfl rfl (by with_reducible rfl)); (case hs => simp (maxSteps := 2000000) only [go_sem, true_implies, false_implies, implies_true, reduceCtorEq, and_true, true_and, Nat.reduceAdd, Nat.reduceSub, Nat.reduceMul, Nat.reduceLT, Nat.reduceLeDiff, Nat.reduceEqDiff, Nat.reduceBEq, if_true, if_false, ite_true, ite_false, reduceIte, Bool.false_eq_true, Bool.true_eq_false, Bool.not_true, Bool.not_false, beq_self_eq_true, decide_true, decide_false, Int.reduceNeg, Int.reduceLT, Int.reduceLE, Int.reduceEq, Int.reduceToNat, Int.reducePow, Nat.reducePow, Nat.min_eq_left, Nat.min_eq_right, Int.reduceMul, Int.reduceAdd, Int.reduceSub, Int.reduceBEq, Int.reduceBNe, bne_self_eq_false, beq_true, beq_false, ev]; exact rfl); (case ht => simp only [putT, List.set_cons_succ, List.set_cons_zero]; exact rfl); (case hn => first | (simp only [Nat.reduceAdd]; exact rfl) | exact rfl))
    | ((with_reducible apply AO_skipE); (case hg => first | exact guardA_gone rfl rfl rfl | exact guardA_noT rfl rfl rfl (by with_reducible rfl) | exact guardA_noF rfl rfl rfl (by with_reducible rfl)); (case ht => simp only [putT, List.set_cons_succ, List.set_cons_zero]; exact rfl); (case hn => first | (simp only [Nat.reduceAdd]; exact rfl) | exact rfl))
    | ((with_reducible apply D_end); (case hi => exact rfl); (case hind => kernel_rfl); (case hn => first | (simp only [Nat.reduceAdd]; exact rfl) | exact rfl); (with_reducible refine hK _ ?_); clear hK K)
    | ((with_reducible apply D_stepE); (case hg => first | exact guardA_none rfl | exact guardA_yes rfl rfl rfl (by with_reducible rfl)); (case hs => simp (maxSteps := 2000000) only [go_sem, true_implies, false_implies, implies_true, reduceCtorEq, and_true, true_and, Nat.reduceAdd, Nat.reduceSub, Nat.reduceMul, Nat.reduceLT, Nat.reduceLeDiff, Nat.reduceEqDiff, Nat.reduceBEq, if_true, if_false, ite_true, ite_false, reduceIte, Bool.false_eq_true, Bool.true_eq_false, Bool.not_true, Bool.not_false, beq_self_eq_true, decide_true, decide_false, Int.reduceNeg, Int.reduceLT, Int.reduceLE, Int.reduceEq, Int.reduceToNat, Int.reducePow, Nat.reducePow, Nat.min_eq_left, Nat.min_eq_right, Int.reduceMul, Int.reduceAdd, Int.reduceSub, Int.reduceBEq, Int.reduceBNe, bne_self_eq_false, beq_true, beq_false, ev]; exact rfl); (case ht => simp only [putT, List.set_cons_succ, List.set_cons_zero]; exact rfl); (case hn => first | (simp only [Nat.reduceAdd]; exact rfl) | exact rfl); (case hc => exact rfl))
    | ((with_reducible apply D_skipE); (case hg => first | exact guardA_gone rfl rfl rfl | exact guardA_noT rfl rfl rfl (by with_reducible rfl) | exact guardA_noF rfl rfl rfl (by with_reducible rfl)); (case ht => simp only [putT, List.set_cons_succ, List.set_cons_zero]; exact rfl); (case hn => first | (simp only [Nat.reduceAdd]; exact rfl) | exact rfl); (case hc => exact rfl))
    | ((with_reducible apply AO_callE); (case hg => first | exact guardA_none rfl | exact guardA_yes rfl rfl rfl (by with_reducible rfl)); (case ho => exact rfl); (case ht => exact rfl); (case hp' => first | exact awake_ok | exact i1 | exact i2 | exact i3 | exact i4 | exact i5); (case htm => simp only [putT, List.set_cons_succ, List.set_cons_zero]; exact rfl); (case hn => first | (simp only [Nat.reduceAdd]; exact rfl) | exact rfl))
    | ((with_reducible apply D_callE); (case hg => first | exact guardA_none rfl | exact guardA_yes rfl rfl rfl (by with_reducible rfl)); (case ho => exact rfl); (case ht => exact rfl); (case hp' => first | exact awake_ok | exact i1 | exact i2 | exact i3 | exact i4 | exact i5); (case htm => simp only [putT, List.set_cons_succ, List.set_cons_zero]; exact rfl); (case hn => first | (simp only [Nat.reduceAdd]; exact rfl) | exact rfl); (case hc => exact rfl))
    | ((fail_if_success ((with_reducible apply AO_stepE); (case hg => first | exact guardA_none rfl | exact guardA_yes rfl rfl rfl (by with_reducible rfl)))); (fail_if_success ((with_reducible apply AO_skipE); (case hg => first | exact guardA_gone rfl rfl rfl | exact guardA_noT rfl rfl rfl (by with_reducible rfl) | exact guardA_noF rfl rfl rfl (by with_reducible rfl)))); (with_reducible apply AO_split); (case hg => exact rfl); (case hd => exact rfl); (case hb => exact rfl); (case e1 => simp only [putT, List.set_cons_succ, List.set_cons_zero]; exact rfl); (case e2 => simp only [putT, List.set_cons_succ, List.set_cons_zero]; exact rfl); all_goals intro hg)
    | ((fail_if_success ((with_reducible apply D_stepE); (case hg => first | exact guardA_none rfl | exact guardA_yes rfl rfl rfl (by with_reducible rfl)))); (fail_if_success ((with_reducible apply D_skipE); (case hg => first | exact guardA_gone rfl rfl rfl | exact guardA_noT rfl rfl rfl (by with_reducible rfl) | exact guardA_noF rfl rfl rfl (by with_reducible rfl)))); (with_reducible apply D_split); (case hg => exact rfl); (case hd => exact rfl); (case hb => exact rfl); (case e1 => simp only [putT, List.set_cons_succ, List.set_cons_zero]; exact rfl); (case e2 => simp only [putT, List.set_cons_succ, List.set_cons_zero]; exact rfl); all_goals intro hg)
  all_goals refine retQ_bool rfl ?_
  all_goals congr 1
  all_goals simp only [beq_iff_eq, beq_eq_false_iff_ne, bne_iff_ne, bne_eq_false_iff_eq, ne_eq, decide_eq_true_eq, decide_eq_false_iff_not] at *
  all_goals first | rfl | omega

theorem fixChain_shp {m : Nat} {xs : List AVal} (h : Shp Try.prog m 28 xs) : PCall Try.prog 5 [.agg xs] (· = .bool true) := by
  cases m with
  | zero => exact h.elim
  | succ m =>
    simp only [Shp, Try.underlying28] at h
    obtain ⟨parts, rfl, hp, hs⟩ := h
    have leaf : ∀ ys, ys ∈ parts → ∃ n, ys = [.int .u64 n] ∧ (0 ≤ n ∧ n < 18446744073709551616) := fun ys hy => by
      have h1 := hs ys hy
      cases m with
      | zero => exact h1.elim
      | succ m =>
        simp only [Shp, Try.underlying22] at h1
        obtain ⟨n, h2, h3⟩ := h1
        exact ⟨n, h2, wf_u64 h3⟩
    match parts, hp, leaf with
    | [p0, p1, p2, p3, p4, p5], _, leaf =>
      obtain ⟨n0, rfl, b0⟩ := leaf p0 (by simp)
      obtain ⟨n1, rfl, b1⟩ := leaf p1 (by simp)
      obtain ⟨n2, rfl, b2⟩ := leaf p2 (by simp)
      obtain ⟨n3, rfl, b3⟩ := leaf p3 (by simp)
      obtain ⟨n4, rfl, b4⟩ := leaf p4 (by simp)
      obtain ⟨n5, rfl, b5⟩ := leaf p5 (by simp)
      exact fixChain_ok n0 n1 n2 n3 n4 n5 b0 b1 b2 b3 b4 b5

end Go.Proofs.Ytjidlifijngcpaa
