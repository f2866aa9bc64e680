/-
  Spread, walked.
-/
import Derived.Test.YteajjckbjgmhaaaF2
namespace Go.Proofs.Yteajjckbjgmhaaa
open Go Go.AM
set_option maxHeartbeats 1000000
set_option linter.unusedSimpArgs false
set_option linter.unusedVariables false
attribute [local go_sem] ty3 ty4 ty9 ty22 ty26 ty33 ty34 ty38 eg38 si38 ty39 eg39 si39 ty43 eg43 si43 ty44 eg44 si44 ty51 ty56 eg56 si56 ty57 eg57 si57 ty62 ty63 eg63 si63 ty64 eg64 si64 ty69 ty77
attribute [local go_sem] ri_length ri_all Int.natCast_nonneg Int.toNat_natCast Nat.zero_add

/-- A list that was made, or none at all. -/
def limOf (e : Int) : Option Nat := if e = 0 then none else some 0

/-- What Spread hands back. -/
def sprV (r : List Int × Int) : AVal := .tuple [.sl (ri r.1) (limOf r.2), .int .i64 r.2]

theorem sprV_bad {r : List Int × Int} {e : Int} (he : e ≠ 0) (h : r = ([], e)) : .tuple [.sl [] (some 0), .int .i64 e] = sprV r := by
  subst h
  simp [sprV, ri, limOf, he]

theorem sprV_good {r : List Int × Int} {xs : List Int} (h : r = (xs, 0)) : .tuple [.sl (ri xs) none, .int .i64 0] = sprV r := by
  subst h
  simp [sprV, limOf]

theorem Frz.pair {h : Heap} {S : Nat → Prop} {x y z : AVal} (f : Frz h S x y) : Frz h S (.tuple [x, z]) (.tuple [y, z]) := by
  refine .tuple _ _ rfl fun i a b ha hb => ?_
  match i with
  | 0 => simp at ha hb; subst ha; subst hb; exact f
  | 1 => simp at ha hb; subst ha; subst hb; exact .refl _
  | i + 2 => simp at ha

theorem fz_pair {x : AVal} {k : IntKind} {n : Int} (h : Fz x) : Fz (.tuple [x, .int k n]) := .tuple _ fun y hy => by
  simp at hy
  rcases hy with rfl | rfl
  · exact h
  · exact .int _ _

theorem okAll_succ (lo h w : List Int) (i : Nat) : okAll lo h w (i + 1) = true ↔ okAll lo h w i = true ∧ (0 ≤ gt lo i ∧ gt lo i ≤ gt h i ∧ gt h i ≤ 4096 ∧ 0 ≤ gt w i ∧ gt w i ≤ 1048576) := by
  rw [okAll_iff, okAll_iff]
  refine ⟨fun h => ⟨fun j hj => h j (by omega), h i (by omega)⟩, fun h j hj => ?_⟩
  rcases Nat.lt_or_ge j i with h1 | h1
  · exact h.1 j h1
  · rw [show j = i by omega]; exact h.2

theorem okAll_false {lo h w : List Int} {i n : Nat} (hi : i < n) (hc : ¬ (0 ≤ gt lo i ∧ gt lo i ≤ gt h i ∧ gt h i ≤ 4096 ∧ 0 ≤ gt w i ∧ gt w i ≤ 1048576)) : okAll lo h w n = false := by
  cases e : okAll lo h w n with
  | false => rfl
  | true => exact absurd (okAll_iff.1 e i hi) hc

theorem retQ_bad {t t' : Tmp} {s : St} {r : List Int × Int} {e : Int} (h : s.tmps.getD t .junk = .sl [] (some 0)) (h' : s.tmps.getD t' .junk = .int .i64 e) (he : e ≠ 0) (hr : r = ([], e)) : retQ Try.prog [.tmp t, .tmp t'] (· = sprV r) .ret s := by
  refine retQ_of (xs := [.sl [] (some 0), .int .i64 e]) ?_ (fz_pair (ri_fz [] (some 0))) (sprV_bad he hr)
  simp only [resAs, resA, h, h']

theorem retQ_good {t t' : Tmp} {s : St} {r : List Int × Int} {xs : List Int} {id n c : Nat} {ex : Bool} (h : s.tmps.getD t .junk = .ref id n 0 n ex c) (h' : s.tmps.getD t' .junk = .int .i64 0) (hl : lk s.h id = some (.arr 1 (ri xs))) (hn : xs.length = n)
    (hr : r = (xs, 0)) : retQ Try.prog [.tmp t, .tmp t'] (· = sprV r) .ret s := by
  refine ⟨[.ref id n 0 n ex c, .int .i64 0], _, ?_, Frz.pair (frz_all hl (by rw [ri_length, hn])), fz_pair (ri_fz xs none), sprV_good hr⟩
  simp only [resAs, resA, h, h']

/-- What has been looked at, and added up. -/
structure Upto (lo h w : List Int) (i : Nat) (least most : Int) : Prop where
  ok : okAll lo h w i = true
  l : least = (lo.take i).sum
  m : most = (h.take i).sum
  lb : 0 ≤ least ∧ least ≤ 4096 * i
  mb : 0 ≤ most ∧ most ≤ 4096 * i

theorem Upto.next {lo h w : List Int} {i : Nat} {least most : Int} (u : Upto lo h w i least most) (hi : i < lo.length) (hi' : i < h.length) (hc : 0 ≤ gt lo i ∧ gt lo i ≤ gt h i ∧ gt h i ≤ 4096 ∧ 0 ≤ gt w i ∧ gt w i ≤ 1048576) (h16 : i < 1000) :
    Upto lo h w (i + 1) (IntKind.i64.wrap (least + gt lo i)) (IntKind.i64.wrap (most + gt h i)) := by
  have := u.lb
  have := u.mb
  rw [iwrap (by omega) (by omega), iwrap (by omega) (by omega)]
  exact ⟨(okAll_succ _ _ _ _).2 ⟨u.ok, hc⟩, by rw [take_sum hi, u.l], by rw [take_sum hi', u.m], by omega, by omega⟩

theorem spread_ok (total : Int) (lo h w : List Int) (l1 l2 l3 : Option Nat) (hl1 : lo.length ≤ maxLen) (hl2 : h.length ≤ maxLen) (hl3 : w.length ≤ maxLen) :
    PCall Try.prog 26 [.int .i64 total, .sl (ri lo) l1, .sl (ri h) l2, .sl (ri w) l3] (· = sprV (spr total lo h w)) := by
  refine PCall_intro (c := Try.f26.body.getD .skip) Try.func26 rfl (by decide +kernel) (by simp [Fz.int_iff, Fz.bool_iff, Fz.agg_iff, Fz.str_iff, ri_fz_iff]) (W_start ?_)
  simp only [Try.f26, go_sem, Nat.reduceAdd, Nat.reduceSub]
  repeat' first
    | with_reducible first | refine W_seq ?_ | refine W_block ?_ | refine W_skip ?_ | refine N_code ?_ | refine N_blk ?_ | refine W_exit ?_ | refine E_blk ?_ | refine E_code ?_ | refine E_blk_ne (by decide) ?_ | refine W_ret ?_ | refine R_code ?_ | refine R_blk ?_ | refine R_nil ?_ | refine L_exit ?_ | refine L_ret ?_ | refine F_ret ?_ | refine F_out (by decide) ?_ | refine FW_ret ?_ | refine FW_out (by decide) ?_
    | ((with_reducible apply W_condE); (case hb => exact rfl); (case e1 => (dsimp only [putT, List.set_cons_succ, List.set_cons_zero] <;> exact rfl)); (case e2 => (dsimp only [putT, List.set_cons_succ, List.set_cons_zero] <;> exact rfl)); all_goals (intro hb; first | (exfalso; revert hb; simp; done) | (exfalso; simp at hb; omega) | simp only [beq_iff_eq, beq_eq_false_iff_ne, bne_iff_ne, bne_eq_false_iff_eq, ne_eq, decide_eq_true_eq, decide_eq_false_iff_not, Int.not_lt, Int.not_le] at hb | skip))
    | (with_reducible refine W_reg fun K hK => ?_)
    | (with_reducible refine W_drwR rfl mixed (by decide +kernel) fun K hK => ?_)
    | (with_reducible refine W_drw mixed (by decide +kernel) fun K hK => ?_)
    | ((with_reducible refine AO_nil (hK _ ?_)); clear hK K)
    | ((with_reducible first | apply AO_mvE | apply V_mvE | apply D_mvE); (case hop => exact rfl); (case hg => first | exact guardA_none rfl | exact guardA_yes rfl rfl rfl (by with_reducible rfl)); (try case hw => exact rfl); (try case hl => first | exact touched_nil rfl | exact touched_one rfl (by omega)); (case hy => exact rfl); (case ht => (dsimp only [putT, List.set_cons_succ, List.set_cons_zero] <;> exact rfl)); (case hn => first | (simp only [Nat.reduceAdd]; exact rfl) | exact rfl); (try case hc => exact rfl))
    | ((with_reducible first | apply AO_stepE | apply V_stepE | apply D_stepE); (case hg => first | exact guardA_none rfl | exact guardA_yes rfl rfl rfl (by with_reducible rfl)); (try case hw => exact rfl); (try case hl => first | exact touched_nil rfl | exact touched_one rfl (by omega)); (case hs => simp (maxSteps := 2000000) only [go_sem, reduceCtorEq, reduceIte, Nat.reduceAdd, Nat.reduceSub, Nat.reduceMul, Nat.reduceLT, Nat.reduceLeDiff, Nat.reduceEqDiff, Nat.reduceBEq, Nat.reducePow, Int.reduceNeg, Int.reduceLT, Int.reduceLE, Int.reduceEq, Int.reduceToNat, Int.reducePow, Int.reduceMul, Int.reduceAdd, Int.reduceSub, Int.reduceBEq, Int.reduceBNe]; exact rfl); (case ht => (dsimp only [putT, List.set_cons_succ, List.set_cons_zero] <;> exact rfl)); (case hn => first | (simp only [Nat.reduceAdd]; exact rfl) | exact rfl); (try case hc => exact rfl))
    | ((with_reducible first | apply AO_skipE | apply V_skipE | apply D_skipE); (case hg => first | exact guardA_gone rfl rfl rfl | exact guardA_noT rfl rfl rfl (by with_reducible rfl) | exact guardA_noF rfl rfl rfl (by with_reducible rfl)); (case ht => (dsimp only [putT, List.set_cons_succ, List.set_cons_zero] <;> exact rfl)); (case hn => first | (simp only [Nat.reduceAdd]; exact rfl) | exact rfl); (try case hc => exact rfl))
    | ((with_reducible first | apply V_end | apply D_end); (case hi => exact rfl); (try case hind => first | exact indepB_old hnx (by omega) (by kernel_rfl) (by kernel_rfl) | kernel_rfl); (case hn => first | (simp only [Nat.reduceAdd]; exact rfl) | exact rfl); (with_reducible refine hK _ ?_); clear hK K)
    | ((fail_if_success ((with_reducible first | apply AO_stepE | apply V_stepE | apply D_stepE); (case hg => first | exact guardA_none rfl | exact guardA_yes rfl rfl rfl (by with_reducible rfl)))); (fail_if_success ((with_reducible first | apply AO_skipE | apply V_skipE | apply D_skipE); (case hg => first | exact guardA_gone rfl rfl rfl | exact guardA_noT rfl rfl rfl (by with_reducible rfl) | exact guardA_noF rfl rfl rfl (by with_reducible rfl)))); (with_reducible first | apply AO_split | apply V_split | apply D_split); (case hg => exact rfl); (case hd => exact rfl); (case hb => exact rfl); (case e1 => (dsimp only [putT, List.set_cons_succ, List.set_cons_zero] <;> exact rfl)); (case e2 => (dsimp only [putT, List.set_cons_succ, List.set_cons_zero] <;> exact rfl)); all_goals intro hg)
  all_goals try simp only [decide_eq_true_eq, decide_eq_false_iff_not, Int.not_lt, Int.not_le, bne_iff_ne, bne_eq_false_iff_eq, ne_eq, Int.natCast_inj] at *
  all_goals try (refine retQ_bad rfl rfl (by decide) ?_; unfold spr; first | rw [if_pos (by omega)] | rw [if_neg (by omega), if_pos (by omega)] | rw [if_neg (by omega), if_neg (by omega), if_pos (by omega)])
  have e12 : lo.length = h.length := by assumption
  have e13 : lo.length = w.length := by assumption
  refine W_for (fun m s => ∃ (i nx : Nat) (least most : Int), i ≤ lo.length ∧ m = lo.length - i ∧ Upto lo h w i least most ∧ s = ⟨[.int .i64 total, .sl (ri lo) l1, .sl (ri h) l2, .sl (ri w) l3, .junk, .junk, .junk, .junk, .sl [] (some 0), .int .i64 0, .int .i64 least, .int .i64 most, .junk, .junk, .junk, .junk, .junk, .junk, .junk, .junk, .junk, .junk, .junk, .junk, .junk, .junk, .junk, .junk, .junk, .junk, .junk, .junk, .junk, .junk, .junk, .junk, .junk, .junk, .junk, .int .i64 lo.length, .int .i64 i, .junk, .junk, .junk, .junk, .junk, .junk, .junk, .junk, .junk, .junk, .junk, .junk, .junk, .junk, .junk, .junk, .junk, .junk, .junk, .junk, .junk, .junk, .junk, .junk, .junk, .junk, .junk, .junk, .junk, .junk, .junk, .junk, .junk, .junk, .junk, .junk, .junk, .junk, .junk, .junk, .junk, .junk, .junk, .junk, .junk, .junk, .junk, .junk, .junk, .junk, .junk, .junk, .junk, .junk, .junk, .junk, .junk, .junk, .junk, .junk, .junk, .junk, .junk, .junk, .junk, .junk, .junk, .junk, .junk, .junk, .junk, .junk, .junk, .junk, .junk, .junk, .junk], [], nx⟩)
    (fun s => ∃ (nx : Nat) (least most : Int), Upto lo h w lo.length least most ∧ s = ⟨[.int .i64 total, .sl (ri lo) l1, .sl (ri h) l2, .sl (ri w) l3, .junk, .junk, .junk, .junk, .sl [] (some 0), .int .i64 0, .int .i64 least, .int .i64 most, .junk, .junk, .junk, .junk, .junk, .junk, .junk, .junk, .junk, .junk, .junk, .junk, .junk, .junk, .junk, .junk, .junk, .junk, .junk, .junk, .junk, .junk, .junk, .junk, .junk, .junk, .junk, .junk, .junk, .junk, .junk, .junk, .junk, .junk, .junk, .junk, .junk, .junk, .junk, .junk, .junk, .junk, .junk, .junk, .junk, .junk, .junk, .junk, .junk, .junk, .junk, .junk, .junk, .junk, .junk, .junk, .junk, .junk, .junk, .junk, .junk, .junk, .junk, .junk, .junk, .junk, .junk, .junk, .junk, .junk, .junk, .junk, .junk, .junk, .junk, .junk, .junk, .junk, .junk, .junk, .junk, .junk, .junk, .junk, .junk, .junk, .junk, .junk, .junk, .junk, .junk, .junk, .junk, .junk, .junk, .junk, .junk, .junk, .junk, .junk, .junk, .junk, .junk, .junk, .junk, .junk], [], nx⟩)
    _ _ ⟨0, 31, 0, 0, by omega, rfl, ⟨rfl, rfl, rfl, by omega, by omega⟩, rfl⟩ ⟨by simp [dropL], rfl, rfl⟩ ?_ ?_
  · rintro s ⟨nx, least, most, u, rfl⟩
    have hL : least = lo.sum := by rw [u.l, List.take_of_length_le (by omega)]
    have hM : most = h.sum := by rw [u.m, List.take_of_length_le (by omega)]
    have hok := u.ok
    have hs0 := u.lb
    rw [hL] at hs0
    have hmax : lo.length ≤ 4294967296 := by omega
    repeat' first
      | with_reducible first | refine W_seq ?_ | refine W_block ?_ | refine W_skip ?_ | refine N_code ?_ | refine N_blk ?_ | refine W_exit ?_ | refine E_blk ?_ | refine E_code ?_ | refine E_blk_ne (by decide) ?_ | refine W_ret ?_ | refine R_code ?_ | refine R_blk ?_ | refine R_nil ?_ | refine L_exit ?_ | refine L_ret ?_ | refine F_ret ?_ | refine F_out (by decide) ?_ | refine FW_ret ?_ | refine FW_out (by decide) ?_
      | ((with_reducible apply W_condE); (case hb => exact rfl); (case e1 => (dsimp only [putT, List.set_cons_succ, List.set_cons_zero] <;> exact rfl)); (case e2 => (dsimp only [putT, List.set_cons_succ, List.set_cons_zero] <;> exact rfl)); all_goals (intro hb; first | (exfalso; revert hb; simp; done) | (exfalso; simp at hb; omega) | simp only [beq_iff_eq, beq_eq_false_iff_ne, bne_iff_ne, bne_eq_false_iff_eq, ne_eq, decide_eq_true_eq, decide_eq_false_iff_not, Int.not_lt, Int.not_le] at hb | skip))
      | (with_reducible refine W_reg fun K hK => ?_)
      | (with_reducible refine W_drwR rfl mixed (by decide +kernel) fun K hK => ?_)
      | (with_reducible refine W_drw mixed (by decide +kernel) fun K hK => ?_)
      | ((with_reducible refine AO_nil (hK _ ?_)); clear hK K)
      | ((with_reducible first | apply AO_mvE | apply V_mvE | apply D_mvE); (case hop => exact rfl); (case hg => first | exact guardA_none rfl | exact guardA_yes rfl rfl rfl (by with_reducible rfl)); (try case hw => exact rfl); (try case hl => first | exact touched_nil rfl | exact touched_one rfl (by omega)); (case hy => exact rfl); (case ht => (dsimp only [putT, List.set_cons_succ, List.set_cons_zero] <;> exact rfl)); (case hn => first | (simp only [Nat.reduceAdd]; exact rfl) | exact rfl); (try case hc => exact rfl))
      | ((with_reducible first | apply AO_stepE | apply V_stepE | apply D_stepE); (case hg => first | exact guardA_none rfl | exact guardA_yes rfl rfl rfl (by with_reducible rfl)); (try case hw => exact rfl); (try case hl => first | exact touched_nil rfl | exact touched_one rfl (by omega)); (case hs => simp (maxSteps := 2000000) only [go_sem, reduceCtorEq, reduceIte, Nat.reduceAdd, Nat.reduceSub, Nat.reduceMul, Nat.reduceLT, Nat.reduceLeDiff, Nat.reduceEqDiff, Nat.reduceBEq, Nat.reducePow, Int.reduceNeg, Int.reduceLT, Int.reduceLE, Int.reduceEq, Int.reduceToNat, Int.reducePow, Int.reduceMul, Int.reduceAdd, Int.reduceSub, Int.reduceBEq, Int.reduceBNe, hmax]; exact rfl); (case ht => (dsimp only [putT, List.set_cons_succ, List.set_cons_zero] <;> exact rfl)); (case hn => first | (simp only [Nat.reduceAdd]; exact rfl) | exact rfl); (try case hc => exact rfl))
      | ((with_reducible first | apply AO_skipE | apply V_skipE | apply D_skipE); (case hg => first | exact guardA_gone rfl rfl rfl | exact guardA_noT rfl rfl rfl (by with_reducible rfl) | exact guardA_noF rfl rfl rfl (by with_reducible rfl)); (case ht => (dsimp only [putT, List.set_cons_succ, List.set_cons_zero] <;> exact rfl)); (case hn => first | (simp only [Nat.reduceAdd]; exact rfl) | exact rfl); (try case hc => exact rfl))
      | ((with_reducible first | apply V_end | apply D_end); (case hi => exact rfl); (try case hind => first | exact indepB_old hnx (by omega) (by kernel_rfl) (by kernel_rfl) | kernel_rfl); (case hn => first | (simp only [Nat.reduceAdd]; exact rfl) | exact rfl); (with_reducible refine hK _ ?_); clear hK K)
      | ((fail_if_success ((with_reducible first | apply AO_stepE | apply V_stepE | apply D_stepE); (case hg => first | exact guardA_none rfl | exact guardA_yes rfl rfl rfl (by with_reducible rfl)))); (fail_if_success ((with_reducible first | apply AO_skipE | apply V_skipE | apply D_skipE); (case hg => first | exact guardA_gone rfl rfl rfl | exact guardA_noT rfl rfl rfl (by with_reducible rfl) | exact guardA_noF rfl rfl rfl (by with_reducible rfl)))); (with_reducible first | apply AO_split | apply V_split | apply D_split); (case hg => exact rfl); (case hd => exact rfl); (case hb => exact rfl); (case e1 => (dsimp only [putT, List.set_cons_succ, List.set_cons_zero] <;> exact rfl)); (case e2 => (dsimp only [putT, List.set_cons_succ, List.set_cons_zero] <;> exact rfl)); all_goals intro hg)
    all_goals try simp only [decide_eq_true_eq, decide_eq_false_iff_not, Int.not_lt, Int.not_le, gt_iff_lt] at *
    all_goals try (refine retQ_bad rfl rfl (by decide) ?_; unfold spr; rw [if_neg (by omega), if_neg (by omega), if_neg (by omega), if_neg (by simp [hok]), if_pos (by omega)])
    have v : Val total lo h w := ⟨by omega, e12, e13, by omega, okAll_iff.1 hok, by omega, by omega⟩
    refine W_for (fun m s => ∃ (t nx id : Nat), lo.sum + t ≤ total ∧ m = (total - lo.sum).toNat - t ∧ id < nx ∧ s = ⟨[.int .i64 total, .sl (ri lo) l1, .sl (ri h) l2, .sl (ri w) l3, .junk, .junk, .junk, .junk, .sl [] (some 0), .int .i64 0, .int .i64 (lo.sum + t), .int .i64 most, .junk, .ref id lo.length 0 lo.length false lo.length, .junk, .junk, .junk, .junk, .junk, .junk, .junk, .junk, .junk, .junk, .junk, .junk, .junk, .junk, .junk, .junk, .junk, .junk, .junk, .junk, .junk, .junk, .junk, .junk, .junk, .junk, .junk, .junk, .junk, .junk, .junk, .junk, .junk, .junk, .junk, .junk, .junk, .junk, .junk, .junk, .junk, .junk, .junk, .junk, .junk, .junk, .junk, .junk, .junk, .junk, .junk, .junk, .junk, .junk, .junk, .junk, .junk, .junk, .junk, .junk, .junk, .junk, .junk, .junk, .junk, .junk, .junk, .junk, .junk, .junk, .junk, .junk, .junk, .junk, .junk, .junk, .junk, .junk, .junk, .junk, .junk, .junk, .junk, .junk, .junk, .junk, .junk, .junk, .junk, .junk, .junk, .junk, .junk, .junk, .junk, .junk, .junk, .junk, .junk, .junk, .junk, .junk, .junk, .junk], [(id, .arr 1 (ri (run lo h w t)))], nx⟩)
      (fun s => ∃ (nx id : Nat), s = ⟨[.int .i64 total, .sl (ri lo) l1, .sl (ri h) l2, .sl (ri w) l3, .junk, .junk, .junk, .junk, .sl [] (some 0), .int .i64 0, .junk, .int .i64 most, .junk, .ref id lo.length 0 lo.length false lo.length, .junk, .junk, .junk, .junk, .junk, .junk, .junk, .junk, .junk, .junk, .junk, .junk, .junk, .junk, .junk, .junk, .junk, .junk, .junk, .junk, .junk, .junk, .junk, .junk, .junk, .junk, .junk, .junk, .junk, .junk, .junk, .junk, .junk, .junk, .junk, .junk, .junk, .junk, .junk, .junk, .junk, .junk, .junk, .junk, .junk, .junk, .junk, .junk, .junk, .junk, .junk, .junk, .junk, .junk, .junk, .junk, .junk, .junk, .junk, .junk, .junk, .junk, .junk, .junk, .junk, .junk, .junk, .junk, .junk, .junk, .junk, .junk, .junk, .junk, .junk, .junk, .junk, .junk, .junk, .junk, .junk, .junk, .junk, .junk, .junk, .junk, .junk, .junk, .junk, .junk, .junk, .junk, .junk, .junk, .junk, .junk, .junk, .junk, .junk, .junk, .junk, .junk, .junk, .junk], [(id, .arr 1 (ri (run lo h w (total - lo.sum).toNat)))], nx⟩)
      _ _ ⟨0, _, _, by omega, rfl, Nat.lt_succ_of_lt (Nat.lt_succ_self _), rfl⟩ ⟨by simp [dropL, hL], rfl, rfl⟩ ?_ ?_
    · rintro s ⟨nx, id, rfl⟩
      repeat' first
        | with_reducible first | refine W_seq ?_ | refine W_block ?_ | refine W_skip ?_ | refine N_code ?_ | refine N_blk ?_ | refine W_exit ?_ | refine E_blk ?_ | refine E_code ?_ | refine E_blk_ne (by decide) ?_ | refine W_ret ?_ | refine R_code ?_ | refine R_blk ?_ | refine R_nil ?_ | refine L_exit ?_ | refine L_ret ?_ | refine F_ret ?_ | refine F_out (by decide) ?_ | refine FW_ret ?_ | refine FW_out (by decide) ?_
        | ((with_reducible apply W_condE); (case hb => exact rfl); (case e1 => (dsimp only [putT, List.set_cons_succ, List.set_cons_zero] <;> exact rfl)); (case e2 => (dsimp only [putT, List.set_cons_succ, List.set_cons_zero] <;> exact rfl)); all_goals (intro hb; first | (exfalso; revert hb; simp; done) | (exfalso; simp at hb; omega) | simp only [beq_iff_eq, beq_eq_false_iff_ne, bne_iff_ne, bne_eq_false_iff_eq, ne_eq, decide_eq_true_eq, decide_eq_false_iff_not, Int.not_lt, Int.not_le] at hb | skip))
        | (with_reducible refine W_reg fun K hK => ?_)
        | (with_reducible refine W_drwR rfl mixed (by decide +kernel) fun K hK => ?_)
        | (with_reducible refine W_drw mixed (by decide +kernel) fun K hK => ?_)
        | ((with_reducible refine AO_nil (hK _ ?_)); clear hK K)
        | ((with_reducible first | apply AO_mvE | apply V_mvE | apply D_mvE); (case hop => exact rfl); (case hg => first | exact guardA_none rfl | exact guardA_yes rfl rfl rfl (by with_reducible rfl)); (try case hw => exact rfl); (try case hl => first | exact touched_nil rfl | exact touched_one rfl (by omega)); (case hy => exact rfl); (case ht => (dsimp only [putT, List.set_cons_succ, List.set_cons_zero] <;> exact rfl)); (case hn => first | (simp only [Nat.reduceAdd]; exact rfl) | exact rfl); (try case hc => exact rfl))
        | ((with_reducible first | apply AO_stepE | apply V_stepE | apply D_stepE); (case hg => first | exact guardA_none rfl | exact guardA_yes rfl rfl rfl (by with_reducible rfl)); (try case hw => exact rfl); (try case hl => first | exact touched_nil rfl | exact touched_one rfl (by omega)); (case hs => simp (maxSteps := 2000000) only [go_sem, reduceCtorEq, reduceIte, Nat.reduceAdd, Nat.reduceSub, Nat.reduceMul, Nat.reduceLT, Nat.reduceLeDiff, Nat.reduceEqDiff, Nat.reduceBEq, Nat.reducePow, Int.reduceNeg, Int.reduceLT, Int.reduceLE, Int.reduceEq, Int.reduceToNat, Int.reducePow, Int.reduceMul, Int.reduceAdd, Int.reduceSub, Int.reduceBEq, Int.reduceBNe]; exact rfl); (case ht => (dsimp only [putT, List.set_cons_succ, List.set_cons_zero] <;> exact rfl)); (case hn => first | (simp only [Nat.reduceAdd]; exact rfl) | exact rfl); (try case hc => exact rfl))
        | ((with_reducible first | apply AO_skipE | apply V_skipE | apply D_skipE); (case hg => first | exact guardA_gone rfl rfl rfl | exact guardA_noT rfl rfl rfl (by with_reducible rfl) | exact guardA_noF rfl rfl rfl (by with_reducible rfl)); (case ht => (dsimp only [putT, List.set_cons_succ, List.set_cons_zero] <;> exact rfl)); (case hn => first | (simp only [Nat.reduceAdd]; exact rfl) | exact rfl); (try case hc => exact rfl))
        | ((with_reducible first | apply V_end | apply D_end); (case hi => exact rfl); (try case hind => first | exact indepB_old hnx (by omega) (by kernel_rfl) (by kernel_rfl) | kernel_rfl); (case hn => first | (simp only [Nat.reduceAdd]; exact rfl) | exact rfl); (with_reducible refine hK _ ?_); clear hK K)
        | ((fail_if_success ((with_reducible first | apply AO_stepE | apply V_stepE | apply D_stepE); (case hg => first | exact guardA_none rfl | exact guardA_yes rfl rfl rfl (by with_reducible rfl)))); (fail_if_success ((with_reducible first | apply AO_skipE | apply V_skipE | apply D_skipE); (case hg => first | exact guardA_gone rfl rfl rfl | exact guardA_noT rfl rfl rfl (by with_reducible rfl) | exact guardA_noF rfl rfl rfl (by with_reducible rfl)))); (with_reducible first | apply AO_split | apply V_split | apply D_split); (case hg => exact rfl); (case hd => exact rfl); (case hb => exact rfl); (case e1 => (dsimp only [putT, List.set_cons_succ, List.set_cons_zero] <;> exact rfl)); (case e2 => (dsimp only [putT, List.set_cons_succ, List.set_cons_zero] <;> exact rfl)); all_goals intro hg)
      refine retQ_good rfl rfl (lk_head _ _ _) (run_length _ _ _ _) ?_
      unfold spr
      rw [if_neg (by omega), if_neg (by omega), if_neg (by omega), if_neg (by simp [hok]), if_neg (by omega)]
    · rintro m s ⟨t, nx, id, h1, rfl, hid, rfl⟩
      rcases Int.lt_or_le (lo.sum + t) total with h2 | h2
      · have wy := way_run v t h1
        have hvh := v.hi
        obtain ⟨n, e, hn, hne, _⟩ := way_best v wy (by omega)
        have hrun : run lo h w (t + 1) = (run lo h w t).set n (gt (run lo h w t) n + 1) := by
          show (run lo h w t).set (bestGo (run lo h w t) h w lo.length).toNat (gt (run lo h w t) (bestGo (run lo h w t) h w lo.length).toNat + 1) = _
          rw [e, Int.toNat_natCast]
        have hlen := run_length lo h w t
        have hwl := wy.le
        obtain ⟨P', hP'⟩ : ∃ P', run lo h w (t + 1) = P' := ⟨_, rfl⟩
        rw [hP'] at hrun
        generalize run lo h w t = p at *
        have hc : PCall Try.prog 40 [.sl (ri p) none, .sl (ri h) l2, .sl (ri w) l3] (· = .int .i64 n) := by
          have := poorest_ok p h w none l2 l3 (by omega) (by omega) (by omega) fun i hi => by
            have a1 := v.ok i (by omega)
            have a2 := hwl i (by omega)
            omega
          rw [hlen, e] at this
          exact this
        have g1 := ri_get (show n < p.length by omega)
        change _ = some [AVal.int IntKind.i64 (gt p n)] at g1
        have hb1 := v.ok n hn
        have hb2 := hwl n hn
        generalize gt p n = a at *
        have w1 : IntKind.i64.wrap (a + 1) = a + 1 := iwrap (by omega) (by omega)
        have w2 : IntKind.i64.wrap (lo.sum + t + 1) = lo.sum + ((t + 1 : Nat) : Int) := by rw [iwrap (by omega) (by omega)]; omega
        have g2 : decide (lo.sum + (t : Int) < total) = true := decide_eq_true h2
        have g3 : (n : Int) < lo.length := by omega
        have g4 : p.set n (a + 1) = P' := hrun.symm
        repeat' first
          | with_reducible first | refine W_seq ?_ | refine W_block ?_ | refine W_skip ?_ | refine N_code ?_ | refine N_blk ?_ | refine W_exit ?_ | refine E_blk ?_ | refine E_code ?_ | refine E_blk_ne (by decide) ?_ | refine W_ret ?_ | refine R_code ?_ | refine R_blk ?_ | refine R_nil ?_ | refine L_exit ?_ | refine L_ret ?_ | refine F_ret ?_ | refine F_out (by decide) ?_ | refine FW_ret ?_ | refine FW_out (by decide) ?_
          | ((with_reducible apply W_condE); (case hb => exact rfl); (case e1 => (dsimp only [putT, List.set_cons_succ, List.set_cons_zero] <;> exact rfl)); (case e2 => (dsimp only [putT, List.set_cons_succ, List.set_cons_zero] <;> exact rfl)); all_goals (intro hb; first | (exfalso; revert hb; simp; done) | (exfalso; simp at hb; omega) | simp only [beq_iff_eq, beq_eq_false_iff_ne, bne_iff_ne, bne_eq_false_iff_eq, ne_eq, decide_eq_true_eq, decide_eq_false_iff_not, Int.not_lt, Int.not_le] at hb | skip))
          | (with_reducible refine W_reg fun K hK => ?_)
          | (with_reducible refine W_drwR rfl mixed (by decide +kernel) fun K hK => ?_)
          | (with_reducible refine W_drw mixed (by decide +kernel) fun K hK => ?_)
          | ((with_reducible refine AO_nil (hK _ ?_)); clear hK K)
          | ((with_reducible first | apply AO_mvE | apply V_mvE | apply D_mvE); (case hop => exact rfl); (case hg => first | exact guardA_none rfl | exact guardA_yes rfl rfl rfl (by with_reducible rfl)); (try case hw => exact rfl); (try case hl => first | exact touched_nil rfl | exact touched_one rfl (by omega)); (case hy => exact rfl); (case ht => (dsimp only [putT, List.set_cons_succ, List.set_cons_zero] <;> exact rfl)); (case hn => first | (simp only [Nat.reduceAdd]; exact rfl) | exact rfl); (try case hc => exact rfl))
          | ((with_reducible first | apply AO_stepE | apply V_stepE | apply D_stepE); (case hg => first | exact guardA_none rfl | exact guardA_yes rfl rfl rfl (by with_reducible rfl)); (try case hw => exact rfl); (try case hl => first | exact touched_nil rfl | exact touched_one rfl (by omega)); (case hs => simp (maxSteps := 2000000) only [go_sem, reduceCtorEq, reduceIte, Nat.reduceAdd, Nat.reduceSub, Nat.reduceMul, Nat.reduceLT, Nat.reduceLeDiff, Nat.reduceEqDiff, Nat.reduceBEq, Nat.reducePow, Int.reduceNeg, Int.reduceLT, Int.reduceLE, Int.reduceEq, Int.reduceToNat, Int.reducePow, Int.reduceMul, Int.reduceAdd, Int.reduceSub, Int.reduceBEq, Int.reduceBNe, g1, g2, g3, hlen, w1, w2, ri_set, g4]; exact rfl); (case ht => (dsimp only [putT, List.set_cons_succ, List.set_cons_zero] <;> exact rfl)); (case hn => first | (simp only [Nat.reduceAdd]; exact rfl) | exact rfl); (try case hc => exact rfl))
          | ((with_reducible first | apply AO_skipE | apply V_skipE | apply D_skipE); (case hg => first | exact guardA_gone rfl rfl rfl | exact guardA_noT rfl rfl rfl (by with_reducible rfl) | exact guardA_noF rfl rfl rfl (by with_reducible rfl)); (case ht => (dsimp only [putT, List.set_cons_succ, List.set_cons_zero] <;> exact rfl)); (case hn => first | (simp only [Nat.reduceAdd]; exact rfl) | exact rfl); (try case hc => exact rfl))
          | ((with_reducible first | apply V_end | apply D_end); (case hi => exact rfl); (try case hind => first | exact indepB_old hnx (by omega) (by kernel_rfl) (by kernel_rfl) | kernel_rfl); (case hn => first | (simp only [Nat.reduceAdd]; exact rfl) | exact rfl); (with_reducible refine hK _ ?_); clear hK K)
          | ((with_reducible apply AO_callNE); (case hg => first | exact guardA_none rfl | exact guardA_yes rfl rfl rfl (by with_reducible rfl)); (case ho => exact rfl); (case ht => exact rfl); (case hc => first | exact hc); (case hf => repeat' first | exact FrzL.nil | apply FrzL.keep | (refine FrzL.whole (lk_head _ _ _) rfl ?_ ?_) | (refine FrzL.whole rfl rfl ?_ ?_) | rfl | (simp only [go_sem, g1, g2, g3, hlen, w1, w2, ri_set, g4]; done)); (case hfl => first | exact .int _ _ | exact .bool _ | exact .str _); (case htm => (dsimp only [putT, List.set_cons_succ, List.set_cons_zero] <;> exact rfl)); (case hn => first | (simp only [Nat.reduceAdd]; exact rfl) | exact rfl))
          | ((fail_if_success ((with_reducible first | apply AO_stepE | apply V_stepE | apply D_stepE); (case hg => first | exact guardA_none rfl | exact guardA_yes rfl rfl rfl (by with_reducible rfl)))); (fail_if_success ((with_reducible first | apply AO_skipE | apply V_skipE | apply D_skipE); (case hg => first | exact guardA_gone rfl rfl rfl | exact guardA_noT rfl rfl rfl (by with_reducible rfl) | exact guardA_noF rfl rfl rfl (by with_reducible rfl)))); (with_reducible first | apply AO_split | apply V_split | apply D_split); (case hg => exact rfl); (case hd => exact rfl); (case hb => exact rfl); (case e1 => (dsimp only [putT, List.set_cons_succ, List.set_cons_zero] <;> exact rfl)); (case e2 => (dsimp only [putT, List.set_cons_succ, List.set_cons_zero] <;> exact rfl)); all_goals intro hg)
        subst hP'
        exact F_next ⟨(total - lo.sum).toNat - (t + 1), by omega, _, ⟨t + 1, _, _, by omega, rfl, by omega, rfl⟩, ⟨by simp [dropL], rfl, rfl⟩⟩
      · have g2 : decide (lo.sum + (t : Int) < total) = false := decide_eq_false (by omega)
        have e : (total - lo.sum).toNat = t := by omega
        repeat' first
          | with_reducible first | refine W_seq ?_ | refine W_block ?_ | refine W_skip ?_ | refine N_code ?_ | refine N_blk ?_ | refine W_exit ?_ | refine E_blk ?_ | refine E_code ?_ | refine E_blk_ne (by decide) ?_ | refine W_ret ?_ | refine R_code ?_ | refine R_blk ?_ | refine R_nil ?_ | refine L_exit ?_ | refine L_ret ?_ | refine F_ret ?_ | refine F_out (by decide) ?_ | refine FW_ret ?_ | refine FW_out (by decide) ?_
          | ((with_reducible apply W_condE); (case hb => exact rfl); (case e1 => (dsimp only [putT, List.set_cons_succ, List.set_cons_zero] <;> exact rfl)); (case e2 => (dsimp only [putT, List.set_cons_succ, List.set_cons_zero] <;> exact rfl)); all_goals (intro hb; first | (exfalso; revert hb; simp; done) | (exfalso; simp at hb; omega) | simp only [beq_iff_eq, beq_eq_false_iff_ne, bne_iff_ne, bne_eq_false_iff_eq, ne_eq, decide_eq_true_eq, decide_eq_false_iff_not, Int.not_lt, Int.not_le] at hb | skip))
          | (with_reducible refine W_reg fun K hK => ?_)
          | (with_reducible refine W_drwR rfl mixed (by decide +kernel) fun K hK => ?_)
          | (with_reducible refine W_drw mixed (by decide +kernel) fun K hK => ?_)
          | ((with_reducible refine AO_nil (hK _ ?_)); clear hK K)
          | ((with_reducible first | apply AO_mvE | apply V_mvE | apply D_mvE); (case hop => exact rfl); (case hg => first | exact guardA_none rfl | exact guardA_yes rfl rfl rfl (by with_reducible rfl)); (try case hw => exact rfl); (try case hl => first | exact touched_nil rfl | exact touched_one rfl (by omega)); (case hy => exact rfl); (case ht => (dsimp only [putT, List.set_cons_succ, List.set_cons_zero] <;> exact rfl)); (case hn => first | (simp only [Nat.reduceAdd]; exact rfl) | exact rfl); (try case hc => exact rfl))
          | ((with_reducible first | apply AO_stepE | apply V_stepE | apply D_stepE); (case hg => first | exact guardA_none rfl | exact guardA_yes rfl rfl rfl (by with_reducible rfl)); (try case hw => exact rfl); (try case hl => first | exact touched_nil rfl | exact touched_one rfl (by omega)); (case hs => simp (maxSteps := 2000000) only [go_sem, reduceCtorEq, reduceIte, Nat.reduceAdd, Nat.reduceSub, Nat.reduceMul, Nat.reduceLT, Nat.reduceLeDiff, Nat.reduceEqDiff, Nat.reduceBEq, Nat.reducePow, Int.reduceNeg, Int.reduceLT, Int.reduceLE, Int.reduceEq, Int.reduceToNat, Int.reducePow, Int.reduceMul, Int.reduceAdd, Int.reduceSub, Int.reduceBEq, Int.reduceBNe, g2]; exact rfl); (case ht => (dsimp only [putT, List.set_cons_succ, List.set_cons_zero] <;> exact rfl)); (case hn => first | (simp only [Nat.reduceAdd]; exact rfl) | exact rfl); (try case hc => exact rfl))
          | ((with_reducible first | apply AO_skipE | apply V_skipE | apply D_skipE); (case hg => first | exact guardA_gone rfl rfl rfl | exact guardA_noT rfl rfl rfl (by with_reducible rfl) | exact guardA_noF rfl rfl rfl (by with_reducible rfl)); (case ht => (dsimp only [putT, List.set_cons_succ, List.set_cons_zero] <;> exact rfl)); (case hn => first | (simp only [Nat.reduceAdd]; exact rfl) | exact rfl); (try case hc => exact rfl))
          | ((with_reducible first | apply V_end | apply D_end); (case hi => exact rfl); (try case hind => first | exact indepB_old hnx (by omega) (by kernel_rfl) (by kernel_rfl) | kernel_rfl); (case hn => first | (simp only [Nat.reduceAdd]; exact rfl) | exact rfl); (with_reducible refine hK _ ?_); clear hK K)
          | ((fail_if_success ((with_reducible first | apply AO_stepE | apply V_stepE | apply D_stepE); (case hg => first | exact guardA_none rfl | exact guardA_yes rfl rfl rfl (by with_reducible rfl)))); (fail_if_success ((with_reducible first | apply AO_skipE | apply V_skipE | apply D_skipE); (case hg => first | exact guardA_gone rfl rfl rfl | exact guardA_noT rfl rfl rfl (by with_reducible rfl) | exact guardA_noF rfl rfl rfl (by with_reducible rfl)))); (with_reducible first | apply AO_split | apply V_split | apply D_split); (case hg => exact rfl); (case hd => exact rfl); (case hb => exact rfl); (case e1 => (dsimp only [putT, List.set_cons_succ, List.set_cons_zero] <;> exact rfl)); (case e2 => (dsimp only [putT, List.set_cons_succ, List.set_cons_zero] <;> exact rfl)); all_goals intro hg)
        rw [← e]
        exact F_exit ⟨_, ⟨_, _, rfl⟩, ⟨by simp [dropL], rfl, rfl⟩⟩
  · rintro m s ⟨i, nx, least, most, h1, rfl, u, rfl⟩
    have ei : IntKind.i64.wrap ((i : Int) + 1) = ((i + 1 : Nat) : Int) := by rw [iwrap (by omega) (by omega)]; omega
    rcases Nat.lt_or_ge i lo.length with h4 | h4
    · have g1 := ri_get h4
      have g2 := ri_get (show i < h.length by omega)
      have g3 := ri_get (show i < w.length by omega)
      have g4 : decide ((i : Int) < lo.length) = true := decide_eq_true (by omega)
      change _ = some [AVal.int IntKind.i64 (gt lo i)] at g1
      change _ = some [AVal.int IntKind.i64 (gt h i)] at g2
      change _ = some [AVal.int IntKind.i64 (gt w i)] at g3
      have un := u.next h4 (by omega)
      have uf : ¬ (0 ≤ gt lo i ∧ gt lo i ≤ gt h i ∧ gt h i ≤ 4096 ∧ 0 ≤ gt w i ∧ gt w i ≤ 1048576) → okAll lo h w lo.length = false := fun hc => okAll_false h4 hc
      generalize gt lo i = a at *
      generalize gt h i = b at *
      generalize gt w i = c at *
      repeat' first
        | with_reducible first | refine W_seq ?_ | refine W_block ?_ | refine W_skip ?_ | refine N_code ?_ | refine N_blk ?_ | refine W_exit ?_ | refine E_blk ?_ | refine E_code ?_ | refine E_blk_ne (by decide) ?_ | refine W_ret ?_ | refine R_code ?_ | refine R_blk ?_ | refine R_nil ?_ | refine L_exit ?_ | refine L_ret ?_ | refine F_ret ?_ | refine F_out (by decide) ?_ | refine FW_ret ?_ | refine FW_out (by decide) ?_
        | ((with_reducible apply W_condE); (case hb => exact rfl); (case e1 => (dsimp only [putT, List.set_cons_succ, List.set_cons_zero] <;> exact rfl)); (case e2 => (dsimp only [putT, List.set_cons_succ, List.set_cons_zero] <;> exact rfl)); all_goals (intro hb; first | (exfalso; revert hb; simp; done) | (exfalso; simp at hb; omega) | simp only [beq_iff_eq, beq_eq_false_iff_ne, bne_iff_ne, bne_eq_false_iff_eq, ne_eq, decide_eq_true_eq, decide_eq_false_iff_not, Int.not_lt, Int.not_le] at hb | skip))
        | (with_reducible refine W_reg fun K hK => ?_)
        | (with_reducible refine W_drwR rfl mixed (by decide +kernel) fun K hK => ?_)
        | (with_reducible refine W_drw mixed (by decide +kernel) fun K hK => ?_)
        | ((with_reducible refine AO_nil (hK _ ?_)); clear hK K)
        | ((with_reducible first | apply AO_mvE | apply V_mvE | apply D_mvE); (case hop => exact rfl); (case hg => first | exact guardA_none rfl | exact guardA_yes rfl rfl rfl (by with_reducible rfl)); (try case hw => exact rfl); (try case hl => first | exact touched_nil rfl | exact touched_one rfl (by omega)); (case hy => exact rfl); (case ht => (dsimp only [putT, List.set_cons_succ, List.set_cons_zero] <;> exact rfl)); (case hn => first | (simp only [Nat.reduceAdd]; exact rfl) | exact rfl); (try case hc => exact rfl))
        | ((with_reducible first | apply AO_stepE | apply V_stepE | apply D_stepE); (case hg => first | exact guardA_none rfl | exact guardA_yes rfl rfl rfl (by with_reducible rfl)); (try case hw => exact rfl); (try case hl => first | exact touched_nil rfl | exact touched_one rfl (by omega)); (case hs => simp (maxSteps := 2000000) only [go_sem, reduceCtorEq, reduceIte, Nat.reduceAdd, Nat.reduceSub, Nat.reduceMul, Nat.reduceLT, Nat.reduceLeDiff, Nat.reduceEqDiff, Nat.reduceBEq, Nat.reducePow, Int.reduceNeg, Int.reduceLT, Int.reduceLE, Int.reduceEq, Int.reduceToNat, Int.reducePow, Int.reduceMul, Int.reduceAdd, Int.reduceSub, Int.reduceBEq, Int.reduceBNe, g1, g2, g3, g4, ei]; exact rfl); (case ht => (dsimp only [putT, List.set_cons_succ, List.set_cons_zero] <;> exact rfl)); (case hn => first | (simp only [Nat.reduceAdd]; exact rfl) | exact rfl); (try case hc => exact rfl))
        | ((with_reducible first | apply AO_skipE | apply V_skipE | apply D_skipE); (case hg => first | exact guardA_gone rfl rfl rfl | exact guardA_noT rfl rfl rfl (by with_reducible rfl) | exact guardA_noF rfl rfl rfl (by with_reducible rfl)); (case ht => (dsimp only [putT, List.set_cons_succ, List.set_cons_zero] <;> exact rfl)); (case hn => first | (simp only [Nat.reduceAdd]; exact rfl) | exact rfl); (try case hc => exact rfl))
        | ((with_reducible first | apply V_end | apply D_end); (case hi => exact rfl); (try case hind => first | exact indepB_old hnx (by omega) (by kernel_rfl) (by kernel_rfl) | kernel_rfl); (case hn => first | (simp only [Nat.reduceAdd]; exact rfl) | exact rfl); (with_reducible refine hK _ ?_); clear hK K)
        | ((fail_if_success ((with_reducible first | apply AO_stepE | apply V_stepE | apply D_stepE); (case hg => first | exact guardA_none rfl | exact guardA_yes rfl rfl rfl (by with_reducible rfl)))); (fail_if_success ((with_reducible first | apply AO_skipE | apply V_skipE | apply D_skipE); (case hg => first | exact guardA_gone rfl rfl rfl | exact guardA_noT rfl rfl rfl (by with_reducible rfl) | exact guardA_noF rfl rfl rfl (by with_reducible rfl)))); (with_reducible first | apply AO_split | apply V_split | apply D_split); (case hg => exact rfl); (case hd => exact rfl); (case hb => exact rfl); (case e1 => (dsimp only [putT, List.set_cons_succ, List.set_cons_zero] <;> exact rfl)); (case e2 => (dsimp only [putT, List.set_cons_succ, List.set_cons_zero] <;> exact rfl)); all_goals intro hg)
      all_goals try simp only [decide_eq_true_eq, decide_eq_false_iff_not, Int.not_lt, Int.not_le, gt_iff_lt] at *
      all_goals try (refine retQ_bad rfl rfl (by decide) ?_; unfold spr; rw [if_neg (by omega), if_neg (by omega), if_neg (by omega), if_pos (uf (by omega))])
      all_goals (refine F_next ⟨lo.length - (i + 1), by omega, _, ⟨i + 1, _, _, _, by omega, rfl, un (by omega) (by omega), rfl⟩, ⟨by simp [dropL], rfl, rfl⟩⟩)
    · have g3 : decide ((i : Int) < lo.length) = false := decide_eq_false (by omega)
      obtain rfl : i = lo.length := by omega
      repeat' first
        | with_reducible first | refine W_seq ?_ | refine W_block ?_ | refine W_skip ?_ | refine N_code ?_ | refine N_blk ?_ | refine W_exit ?_ | refine E_blk ?_ | refine E_code ?_ | refine E_blk_ne (by decide) ?_ | refine W_ret ?_ | refine R_code ?_ | refine R_blk ?_ | refine R_nil ?_ | refine L_exit ?_ | refine L_ret ?_ | refine F_ret ?_ | refine F_out (by decide) ?_ | refine FW_ret ?_ | refine FW_out (by decide) ?_
        | ((with_reducible apply W_condE); (case hb => exact rfl); (case e1 => (dsimp only [putT, List.set_cons_succ, List.set_cons_zero] <;> exact rfl)); (case e2 => (dsimp only [putT, List.set_cons_succ, List.set_cons_zero] <;> exact rfl)); all_goals (intro hb; first | (exfalso; revert hb; simp; done) | (exfalso; simp at hb; omega) | simp only [beq_iff_eq, beq_eq_false_iff_ne, bne_iff_ne, bne_eq_false_iff_eq, ne_eq, decide_eq_true_eq, decide_eq_false_iff_not, Int.not_lt, Int.not_le] at hb | skip))
        | (with_reducible refine W_reg fun K hK => ?_)
        | (with_reducible refine W_drwR rfl mixed (by decide +kernel) fun K hK => ?_)
        | (with_reducible refine W_drw mixed (by decide +kernel) fun K hK => ?_)
        | ((with_reducible refine AO_nil (hK _ ?_)); clear hK K)
        | ((with_reducible first | apply AO_mvE | apply V_mvE | apply D_mvE); (case hop => exact rfl); (case hg => first | exact guardA_none rfl | exact guardA_yes rfl rfl rfl (by with_reducible rfl)); (try case hw => exact rfl); (try case hl => first | exact touched_nil rfl | exact touched_one rfl (by omega)); (case hy => exact rfl); (case ht => (dsimp only [putT, List.set_cons_succ, List.set_cons_zero] <;> exact rfl)); (case hn => first | (simp only [Nat.reduceAdd]; exact rfl) | exact rfl); (try case hc => exact rfl))
        | ((with_reducible first | apply AO_stepE | apply V_stepE | apply D_stepE); (case hg => first | exact guardA_none rfl | exact guardA_yes rfl rfl rfl (by with_reducible rfl)); (try case hw => exact rfl); (try case hl => first | exact touched_nil rfl | exact touched_one rfl (by omega)); (case hs => simp (maxSteps := 2000000) only [go_sem, reduceCtorEq, reduceIte, Nat.reduceAdd, Nat.reduceSub, Nat.reduceMul, Nat.reduceLT, Nat.reduceLeDiff, Nat.reduceEqDiff, Nat.reduceBEq, Nat.reducePow, Int.reduceNeg, Int.reduceLT, Int.reduceLE, Int.reduceEq, Int.reduceToNat, Int.reducePow, Int.reduceMul, Int.reduceAdd, Int.reduceSub, Int.reduceBEq, Int.reduceBNe, g3]; exact rfl); (case ht => (dsimp only [putT, List.set_cons_succ, List.set_cons_zero] <;> exact rfl)); (case hn => first | (simp only [Nat.reduceAdd]; exact rfl) | exact rfl); (try case hc => exact rfl))
        | ((with_reducible first | apply AO_skipE | apply V_skipE | apply D_skipE); (case hg => first | exact guardA_gone rfl rfl rfl | exact guardA_noT rfl rfl rfl (by with_reducible rfl) | exact guardA_noF rfl rfl rfl (by with_reducible rfl)); (case ht => (dsimp only [putT, List.set_cons_succ, List.set_cons_zero] <;> exact rfl)); (case hn => first | (simp only [Nat.reduceAdd]; exact rfl) | exact rfl); (try case hc => exact rfl))
        | ((with_reducible first | apply V_end | apply D_end); (case hi => exact rfl); (try case hind => first | exact indepB_old hnx (by omega) (by kernel_rfl) (by kernel_rfl) | kernel_rfl); (case hn => first | (simp only [Nat.reduceAdd]; exact rfl) | exact rfl); (with_reducible refine hK _ ?_); clear hK K)
        | ((fail_if_success ((with_reducible first | apply AO_stepE | apply V_stepE | apply D_stepE); (case hg => first | exact guardA_none rfl | exact guardA_yes rfl rfl rfl (by with_reducible rfl)))); (fail_if_success ((with_reducible first | apply AO_skipE | apply V_skipE | apply D_skipE); (case hg => first | exact guardA_gone rfl rfl rfl | exact guardA_noT rfl rfl rfl (by with_reducible rfl) | exact guardA_noF rfl rfl rfl (by with_reducible rfl)))); (with_reducible first | apply AO_split | apply V_split | apply D_split); (case hg => exact rfl); (case hd => exact rfl); (case hb => exact rfl); (case e1 => (dsimp only [putT, List.set_cons_succ, List.set_cons_zero] <;> exact rfl)); (case e2 => (dsimp only [putT, List.set_cons_succ, List.set_cons_zero] <;> exact rfl)); all_goals intro hg)
      exact F_exit ⟨_, ⟨_, _, _, u, rfl⟩, ⟨by simp [dropL], rfl, rfl⟩⟩

end Go.Proofs.Yteajjckbjgmhaaa
