/-
  Books: how many are in a phase; walked.
-/
import Derived.Test.YtenlmlhepcgpiaaF3
namespace Go.Proofs.Ytenlmlhepcgpiaa
open Go Go.AM
set_option maxHeartbeats 2000000
set_option linter.unusedSimpArgs false
set_option linter.unusedVariables false

/-- How many are in a phase. -/
def cnt (b : List TEntry) (p : Int) : Int := (b.countP fun x => x.phase == p : Nat)

theorem cnt_nil (p : Int) : cnt [] p = 0 := rfl

theorem cnt_take {b : List TEntry} {i : Nat} {x : TEntry} (h : b[i]? = some x) (p : Int) : cnt (b.take (i + 1)) p = cnt (b.take i) p + if x.phase = p then 1 else 0 := by
  unfold cnt
  rw [take_snoc h, List.countP_append]
  by_cases hp : x.phase = p <;> simp [hp]

theorem cnt_le (b : List TEntry) (i : Nat) (p : Int) : 0 ≤ cnt (b.take i) p ∧ cnt (b.take i) p ≤ i := by
  unfold cnt
  have := List.countP_le_length (p := fun x : TEntry => x.phase == p) (l := b.take i)
  have h2 : (b.take i).length ≤ i := by simp; omega
  omega

theorem rcount_ok (b : List TEntry) (p : Int) (hl : b.length ≤ 1000) : PCall Try.prog 15 [.sl (rws b) none, .int .i64 p] (· = .int .i64 (cnt b p)) := by
  refine PCall_intro (c := Try.f15.body.getD .skip) Try.func15 rfl (by decide +kernel) (by simp [Fz.int_iff, Fz.bool_iff, Fz.agg_iff, Fz.str_iff, rws_fz_iff, ri_fz_iff, enc_mem_iff, Fz.fp_iff, Fz.func_iff]) (W_start ?_)
  simp only [Try.f15, go_sem]
  repeat' first
    | with_reducible first | refine W_seq ?_ | refine W_block ?_ | refine W_skip ?_ | refine N_code ?_ | refine N_blk ?_ | refine W_exit ?_ | refine E_blk ?_ | refine E_code ?_ | refine E_blk_ne (by decide) ?_ | refine W_ret ?_ | refine R_code ?_ | refine R_blk ?_ | refine L_exit ?_ | refine L_ret ?_ | refine F_ret ?_ | refine F_out (by decide) ?_ | refine FW_ret ?_ | refine FW_out (by decide) ?_ | refine R_nil ?_
    | ((with_reducible apply W_condT); (case hb => exact rfl); (case hw => with_reducible rfl))
    | ((with_reducible apply W_condF); (case hb => exact rfl); (case hw => with_reducible rfl))
    | ((with_reducible apply W_condE); (case hb => exact rfl); (case e1 => exact sT); (case e2 => exact sT); all_goals (intro hb; first | (simp (disch := omega) only [go_sem] at hb; done) | (simp (disch := omega) only [go_sem] at hb; try omega) | try omega))
    | (with_reducible refine W_reg fun K hK => ?_)
    | (with_reducible refine W_drwR rfl mixed (by decide +kernel) fun K hK => ?_)
    | (with_reducible refine W_drw mixed (by decide +kernel) fun K hK => ?_)
    | ((with_reducible refine AO_nil (hK _ ?_)); clear hK K)
    | ((with_reducible apply D_admE); (case hop => exact rfl); (case ha => exact rfl); (case hna => exact rfl); (try case hl => exact tT); (case hg => exact gT); (case hy => exact rfl); (case ht => exact pT); (case hn => exact nT); (try case hc => exact rfl))
    | ((with_reducible apply D_adrE); (case ha => exact rfl); (case hna => exact rfl); (try case hl => exact tT); (case hg => exact gT); (case hs => simp (maxSteps := 2000000) (disch := omega) only [go_sem]; exact rfl); (case ht => exact pT); (case hn => exact nT); (try case hc => exact rfl))
    | ((with_reducible first | apply AO_mvE | apply V_mvE | apply D_mvE); (case hop => exact rfl); (case hg => exact gT); (try case hw => exact rfl); (try case hl => exact tT); (case hy => exact rfl); (case ht => exact pT); (case hn => exact nT); (try case hc => exact rfl))
    | ((with_reducible first | apply AO_stepE | apply V_stepE | apply D_stepE); (case hg => exact gT); (try case hw => exact rfl); (try case hl => exact tT); (case hs => simp (maxSteps := 2000000) (disch := omega) only [go_sem]; exact rfl); (case ht => exact pT); (case hn => exact nT); (try case hc => exact rfl))
    | ((with_reducible first | apply AO_skipE | apply V_skipE | apply D_skipE); (case hg => exact gF); (case ht => exact pT); (case hn => exact nT); (try case hc => exact rfl))
    | ((with_reducible first | apply V_end | apply D_end); (case hi => exact rfl); (try case hind => kernel_rfl); (case hn => exact nT); (with_reducible refine hK _ ?_); clear hK K)
    | ((with_reducible apply AO_nilE); (case hg => exact gT); (case ho => exact rfl); (case ht => simp only [go_sem]; exact rfl); (case hx => exact rfl); (case hn => exact nT); intro bn hnil; (try simp (disch := omega) only [go_sem] at hnil); dsimp only [putT, List.set_cons_succ, List.set_cons_zero])
    | ((fail_if_success ((with_reducible first | apply AO_stepE | apply V_stepE | apply D_stepE); (case hg => exact gT))); (fail_if_success ((with_reducible first | apply AO_skipE | apply V_skipE | apply D_skipE); (case hg => exact gF))); (with_reducible first | apply AO_split | apply V_split | apply D_split); (case hg => exact rfl); (case hd => exact rfl); (case hb => exact rfl); (case e1 => exact sT); (case e2 => exact sT); all_goals (intro hg; first | (simp (disch := omega) only [go_sem] at hg; try omega) | try omega))
  refine W_foldK (fun (i : Nat) => [none, none, none, none, none, some (.int .i64 (cnt (b.take i) p)), some (.int .i64 i), some .junk, some .junk, some .junk, some .junk, some .junk, some .junk, some .junk, some .junk, some .junk, some .junk, some .junk, some .junk, some .junk, some .junk, some .junk]) (fun i => i ≤ b.length) (fun i => b.length - i) 0 (by omega) (by simp only [List.take_zero, cnt_nil]; exact (by exact weak_mk wkD wkH wkN wkM (by omega))) ?_
  rintro i hi
  simp only [msk_none, msk_some, msk_nil]
  have b1 := cnt_le b i p
  rcases Nat.lt_or_ge i b.length with h4 | h4
  · obtain ⟨x, hx⟩ := some_of_lt h4
    have e1 := cnt_take hx p
    by_cases hp : x.phase = p
    · rw [if_pos hp] at e1
      repeat' first
        | with_reducible first | refine W_seq ?_ | refine W_block ?_ | refine W_skip ?_ | refine N_code ?_ | refine N_blk ?_ | refine W_exit ?_ | refine E_blk ?_ | refine E_code ?_ | refine E_blk_ne (by decide) ?_ | refine W_ret ?_ | refine R_code ?_ | refine R_blk ?_ | refine L_exit ?_ | refine L_ret ?_ | refine F_ret ?_ | refine F_out (by decide) ?_ | refine FW_ret ?_ | refine FW_out (by decide) ?_ | refine R_nil ?_
        | ((with_reducible apply W_condT); (case hb => exact rfl); (case hw => with_reducible rfl))
        | ((with_reducible apply W_condF); (case hb => exact rfl); (case hw => with_reducible rfl))
        | ((with_reducible apply W_condE); (case hb => exact rfl); (case e1 => exact sT); (case e2 => exact sT); all_goals (intro hb; first | (simp (disch := omega) only [go_sem, rws_get hx, e1.symm] at hb; done) | (simp (disch := omega) only [go_sem, rws_get hx, e1.symm] at hb; try omega) | try omega))
        | (with_reducible refine W_reg fun K hK => ?_)
        | (with_reducible refine W_drwR rfl mixed (by decide +kernel) fun K hK => ?_)
        | (with_reducible refine W_drw mixed (by decide +kernel) fun K hK => ?_)
        | ((with_reducible refine AO_nil (hK _ ?_)); clear hK K)
        | ((with_reducible apply D_admE); (case hop => exact rfl); (case ha => exact rfl); (case hna => exact rfl); (try case hl => exact tT); (case hg => exact gT); (case hy => exact rfl); (case ht => exact pT); (case hn => exact nT); (try case hc => exact rfl))
        | ((with_reducible apply D_adrE); (case ha => exact rfl); (case hna => exact rfl); (try case hl => exact tT); (case hg => exact gT); (case hs => simp (maxSteps := 2000000) (disch := omega) only [go_sem, rws_get hx, e1.symm]; exact rfl); (case ht => exact pT); (case hn => exact nT); (try case hc => exact rfl))
        | ((with_reducible first | apply AO_mvE | apply V_mvE | apply D_mvE); (case hop => exact rfl); (case hg => exact gT); (try case hw => exact rfl); (try case hl => exact tT); (case hy => exact rfl); (case ht => exact pT); (case hn => exact nT); (try case hc => exact rfl))
        | ((with_reducible first | apply AO_stepE | apply V_stepE | apply D_stepE); (case hg => exact gT); (try case hw => exact rfl); (try case hl => exact tT); (case hs => simp (maxSteps := 2000000) (disch := omega) only [go_sem, rws_get hx, e1.symm]; exact rfl); (case ht => exact pT); (case hn => exact nT); (try case hc => exact rfl))
        | ((with_reducible first | apply AO_skipE | apply V_skipE | apply D_skipE); (case hg => exact gF); (case ht => exact pT); (case hn => exact nT); (try case hc => exact rfl))
        | ((with_reducible first | apply V_end | apply D_end); (case hi => exact rfl); (try case hind => kernel_rfl); (case hn => exact nT); (with_reducible refine hK _ ?_); clear hK K)
        | ((with_reducible apply AO_nilE); (case hg => exact gT); (case ho => exact rfl); (case ht => simp only [go_sem]; exact rfl); (case hx => exact rfl); (case hn => exact nT); intro bn hnil; (try simp (disch := omega) only [go_sem, rws_get hx, e1.symm] at hnil); dsimp only [putT, List.set_cons_succ, List.set_cons_zero])
        | ((fail_if_success ((with_reducible first | apply AO_stepE | apply V_stepE | apply D_stepE); (case hg => exact gT))); (fail_if_success ((with_reducible first | apply AO_skipE | apply V_skipE | apply D_skipE); (case hg => exact gF))); (with_reducible first | apply AO_split | apply V_split | apply D_split); (case hg => exact rfl); (case hd => exact rfl); (case hb => exact rfl); (case e1 => exact sT); (case e2 => exact sT); all_goals (intro hg; first | (simp (disch := omega) only [go_sem, rws_get hx, e1.symm] at hg; try omega) | try omega))
      exact L_next ⟨i + 1, by omega, by omega, (by exact weak_mk wkD wkH wkN wkM (by omega))⟩
    · rw [if_neg hp, Int.add_zero] at e1
      repeat' first
        | with_reducible first | refine W_seq ?_ | refine W_block ?_ | refine W_skip ?_ | refine N_code ?_ | refine N_blk ?_ | refine W_exit ?_ | refine E_blk ?_ | refine E_code ?_ | refine E_blk_ne (by decide) ?_ | refine W_ret ?_ | refine R_code ?_ | refine R_blk ?_ | refine L_exit ?_ | refine L_ret ?_ | refine F_ret ?_ | refine F_out (by decide) ?_ | refine FW_ret ?_ | refine FW_out (by decide) ?_ | refine R_nil ?_
        | ((with_reducible apply W_condT); (case hb => exact rfl); (case hw => with_reducible rfl))
        | ((with_reducible apply W_condF); (case hb => exact rfl); (case hw => with_reducible rfl))
        | ((with_reducible apply W_condE); (case hb => exact rfl); (case e1 => exact sT); (case e2 => exact sT); all_goals (intro hb; first | (simp (disch := omega) only [go_sem, rws_get hx] at hb; done) | (simp (disch := omega) only [go_sem, rws_get hx] at hb; try omega) | try omega))
        | (with_reducible refine W_reg fun K hK => ?_)
        | (with_reducible refine W_drwR rfl mixed (by decide +kernel) fun K hK => ?_)
        | (with_reducible refine W_drw mixed (by decide +kernel) fun K hK => ?_)
        | ((with_reducible refine AO_nil (hK _ ?_)); clear hK K)
        | ((with_reducible apply D_admE); (case hop => exact rfl); (case ha => exact rfl); (case hna => exact rfl); (try case hl => exact tT); (case hg => exact gT); (case hy => exact rfl); (case ht => exact pT); (case hn => exact nT); (try case hc => exact rfl))
        | ((with_reducible apply D_adrE); (case ha => exact rfl); (case hna => exact rfl); (try case hl => exact tT); (case hg => exact gT); (case hs => simp (maxSteps := 2000000) (disch := omega) only [go_sem, rws_get hx]; exact rfl); (case ht => exact pT); (case hn => exact nT); (try case hc => exact rfl))
        | ((with_reducible first | apply AO_mvE | apply V_mvE | apply D_mvE); (case hop => exact rfl); (case hg => exact gT); (try case hw => exact rfl); (try case hl => exact tT); (case hy => exact rfl); (case ht => exact pT); (case hn => exact nT); (try case hc => exact rfl))
        | ((with_reducible first | apply AO_stepE | apply V_stepE | apply D_stepE); (case hg => exact gT); (try case hw => exact rfl); (try case hl => exact tT); (case hs => simp (maxSteps := 2000000) (disch := omega) only [go_sem, rws_get hx]; exact rfl); (case ht => exact pT); (case hn => exact nT); (try case hc => exact rfl))
        | ((with_reducible first | apply AO_skipE | apply V_skipE | apply D_skipE); (case hg => exact gF); (case ht => exact pT); (case hn => exact nT); (try case hc => exact rfl))
        | ((with_reducible first | apply V_end | apply D_end); (case hi => exact rfl); (try case hind => kernel_rfl); (case hn => exact nT); (with_reducible refine hK _ ?_); clear hK K)
        | ((with_reducible apply AO_nilE); (case hg => exact gT); (case ho => exact rfl); (case ht => simp only [go_sem]; exact rfl); (case hx => exact rfl); (case hn => exact nT); intro bn hnil; (try simp (disch := omega) only [go_sem, rws_get hx] at hnil); dsimp only [putT, List.set_cons_succ, List.set_cons_zero])
        | ((fail_if_success ((with_reducible first | apply AO_stepE | apply V_stepE | apply D_stepE); (case hg => exact gT))); (fail_if_success ((with_reducible first | apply AO_skipE | apply V_skipE | apply D_skipE); (case hg => exact gF))); (with_reducible first | apply AO_split | apply V_split | apply D_split); (case hg => exact rfl); (case hd => exact rfl); (case hb => exact rfl); (case e1 => exact sT); (case e2 => exact sT); all_goals (intro hg; first | (simp (disch := omega) only [go_sem, rws_get hx] at hg; try omega) | try omega))
      rw [← e1]
      exact L_next ⟨i + 1, by omega, by omega, (by exact weak_mk wkD wkH wkN wkM (by omega))⟩
  · obtain rfl : i = b.length := by omega
    rw [List.take_length]
    repeat' first
      | with_reducible first | refine W_seq ?_ | refine W_block ?_ | refine W_skip ?_ | refine N_code ?_ | refine N_blk ?_ | refine W_exit ?_ | refine E_blk ?_ | refine E_code ?_ | refine E_blk_ne (by decide) ?_ | refine W_ret ?_ | refine R_code ?_ | refine R_blk ?_ | refine L_exit ?_ | refine L_ret ?_ | refine F_ret ?_ | refine F_out (by decide) ?_ | refine FW_ret ?_ | refine FW_out (by decide) ?_ | refine R_nil ?_
      | ((with_reducible apply W_condT); (case hb => exact rfl); (case hw => with_reducible rfl))
      | ((with_reducible apply W_condF); (case hb => exact rfl); (case hw => with_reducible rfl))
      | ((with_reducible apply W_condE); (case hb => exact rfl); (case e1 => exact sT); (case e2 => exact sT); all_goals (intro hb; first | (simp (disch := omega) only [go_sem] at hb; done) | (simp (disch := omega) only [go_sem] at hb; try omega) | try omega))
      | (with_reducible refine W_reg fun K hK => ?_)
      | (with_reducible refine W_drwR rfl mixed (by decide +kernel) fun K hK => ?_)
      | (with_reducible refine W_drw mixed (by decide +kernel) fun K hK => ?_)
      | ((with_reducible refine AO_nil (hK _ ?_)); clear hK K)
      | ((with_reducible apply D_admE); (case hop => exact rfl); (case ha => exact rfl); (case hna => exact rfl); (try case hl => exact tT); (case hg => exact gT); (case hy => exact rfl); (case ht => exact pT); (case hn => exact nT); (try case hc => exact rfl))
      | ((with_reducible apply D_adrE); (case ha => exact rfl); (case hna => exact rfl); (try case hl => exact tT); (case hg => exact gT); (case hs => simp (maxSteps := 2000000) (disch := omega) only [go_sem]; exact rfl); (case ht => exact pT); (case hn => exact nT); (try case hc => exact rfl))
      | ((with_reducible first | apply AO_mvE | apply V_mvE | apply D_mvE); (case hop => exact rfl); (case hg => exact gT); (try case hw => exact rfl); (try case hl => exact tT); (case hy => exact rfl); (case ht => exact pT); (case hn => exact nT); (try case hc => exact rfl))
      | ((with_reducible first | apply AO_stepE | apply V_stepE | apply D_stepE); (case hg => exact gT); (try case hw => exact rfl); (try case hl => exact tT); (case hs => simp (maxSteps := 2000000) (disch := omega) only [go_sem]; exact rfl); (case ht => exact pT); (case hn => exact nT); (try case hc => exact rfl))
      | ((with_reducible first | apply AO_skipE | apply V_skipE | apply D_skipE); (case hg => exact gF); (case ht => exact pT); (case hn => exact nT); (try case hc => exact rfl))
      | ((with_reducible first | apply V_end | apply D_end); (case hi => exact rfl); (try case hind => kernel_rfl); (case hn => exact nT); (with_reducible refine hK _ ?_); clear hK K)
      | ((with_reducible apply AO_nilE); (case hg => exact gT); (case ho => exact rfl); (case ht => simp only [go_sem]; exact rfl); (case hx => exact rfl); (case hn => exact nT); intro bn hnil; (try simp (disch := omega) only [go_sem] at hnil); dsimp only [putT, List.set_cons_succ, List.set_cons_zero])
      | ((fail_if_success ((with_reducible first | apply AO_stepE | apply V_stepE | apply D_stepE); (case hg => exact gT))); (fail_if_success ((with_reducible first | apply AO_skipE | apply V_skipE | apply D_skipE); (case hg => exact gF))); (with_reducible first | apply AO_split | apply V_split | apply D_split); (case hg => exact rfl); (case hd => exact rfl); (case hb => exact rfl); (case e1 => exact sT); (case e2 => exact sT); all_goals (intro hg; first | (simp (disch := omega) only [go_sem] at hg; try omega) | try omega))
    (with_reducible apply retQ_frz); (case h => simp (disch := omega) only [go_sem]; exact rfl); (case hq => exact rfl); (case hz => simp [Fz.int_iff, Fz.bool_iff, Fz.agg_iff, Fz.str_iff, rws_fz_iff, ri_fz_iff, Fz.tuple_iff, enc_fz_iff, enc_mem_iff, Fz.fp_iff, Fz.func_iff]); (case hf => repeat' first | exact .refl _ | (refine .tupleC ?_) | (refine .cons ?_ ?_) | exact .nil | exact .slR (.refl _) | exact .refE trivial (by simp only [go_sem]; exact rfl) (by first | rfl | (simp; done) | (simp [rws, Enc.enc]; done)) (by first | rfl | simp [rws_length]) | (refine .aggC ?_))

theorem count_ok (b : List TEntry) (hl : b.length ≤ 1000) : PCall Try.prog 14 [.sl (rws b) none] (· = .tuple [.int .i64 (cnt b 1), .int .i64 (cnt b 2), .int .i64 (cnt b 3)]) := by
  refine PCall_intro (c := Try.f14.body.getD .skip) Try.func14 rfl (by decide +kernel) (by simp [Fz.int_iff, Fz.bool_iff, Fz.agg_iff, Fz.str_iff, rws_fz_iff, ri_fz_iff, enc_mem_iff, Fz.fp_iff, Fz.func_iff]) (W_start ?_)
  simp only [Try.f14, go_sem]
  repeat' first
    | with_reducible first | refine W_seq ?_ | refine W_block ?_ | refine W_skip ?_ | refine N_code ?_ | refine N_blk ?_ | refine W_exit ?_ | refine E_blk ?_ | refine E_code ?_ | refine E_blk_ne (by decide) ?_ | refine W_ret ?_ | refine R_code ?_ | refine R_blk ?_ | refine L_exit ?_ | refine L_ret ?_ | refine F_ret ?_ | refine F_out (by decide) ?_ | refine FW_ret ?_ | refine FW_out (by decide) ?_ | refine R_nil ?_
    | ((with_reducible apply W_condT); (case hb => exact rfl); (case hw => with_reducible rfl))
    | ((with_reducible apply W_condF); (case hb => exact rfl); (case hw => with_reducible rfl))
    | ((with_reducible apply W_condE); (case hb => exact rfl); (case e1 => exact sT); (case e2 => exact sT); all_goals (intro hb; first | (simp (disch := omega) only [go_sem] at hb; done) | (simp (disch := omega) only [go_sem] at hb; try omega) | try omega))
    | (with_reducible refine W_reg fun K hK => ?_)
    | (with_reducible refine W_drwR rfl mixed (by decide +kernel) fun K hK => ?_)
    | (with_reducible refine W_drw mixed (by decide +kernel) fun K hK => ?_)
    | ((with_reducible refine AO_nil (hK _ ?_)); clear hK K)
    | ((with_reducible apply D_admE); (case hop => exact rfl); (case ha => exact rfl); (case hna => exact rfl); (try case hl => exact tT); (case hg => exact gT); (case hy => exact rfl); (case ht => exact pT); (case hn => exact nT); (try case hc => exact rfl))
    | ((with_reducible apply D_adrE); (case ha => exact rfl); (case hna => exact rfl); (try case hl => exact tT); (case hg => exact gT); (case hs => simp (maxSteps := 2000000) (disch := omega) only [go_sem]; exact rfl); (case ht => exact pT); (case hn => exact nT); (try case hc => exact rfl))
    | ((with_reducible first | apply AO_mvE | apply V_mvE | apply D_mvE); (case hop => exact rfl); (case hg => exact gT); (try case hw => exact rfl); (try case hl => exact tT); (case hy => exact rfl); (case ht => exact pT); (case hn => exact nT); (try case hc => exact rfl))
    | ((with_reducible first | apply AO_stepE | apply V_stepE | apply D_stepE); (case hg => exact gT); (try case hw => exact rfl); (try case hl => exact tT); (case hs => simp (maxSteps := 2000000) (disch := omega) only [go_sem]; exact rfl); (case ht => exact pT); (case hn => exact nT); (try case hc => exact rfl))
    | ((with_reducible first | apply AO_skipE | apply V_skipE | apply D_skipE); (case hg => exact gF); (case ht => exact pT); (case hn => exact nT); (try case hc => exact rfl))
    | ((with_reducible first | apply V_end | apply D_end); (case hi => exact rfl); (try case hind => kernel_rfl); (case hn => exact nT); (with_reducible refine hK _ ?_); clear hK K)
    | ((with_reducible apply AO_nilE); (case hg => exact gT); (case ho => exact rfl); (case ht => simp only [go_sem]; exact rfl); (case hx => exact rfl); (case hn => exact nT); intro bn hnil; (try simp (disch := omega) only [go_sem] at hnil); dsimp only [putT, List.set_cons_succ, List.set_cons_zero])
    | ((fail_if_success ((with_reducible first | apply AO_stepE | apply V_stepE | apply D_stepE); (case hg => exact gT))); (fail_if_success ((with_reducible first | apply AO_skipE | apply V_skipE | apply D_skipE); (case hg => exact gF))); (with_reducible first | apply AO_split | apply V_split | apply D_split); (case hg => exact rfl); (case hd => exact rfl); (case hb => exact rfl); (case e1 => exact sT); (case e2 => exact sT); all_goals (intro hg; first | (simp (disch := omega) only [go_sem] at hg; try omega) | try omega))
  refine W_foldA (fun id (i : Nat) => [none, none, none, none, none, none, none, some .junk, none, none, some (.int .i64 i), some .junk, some .junk, some .junk, some .junk, some .junk, some .junk, some .junk, some .junk, some .junk, some .junk, some .junk, some .junk, some .junk]) (fun i => [[.int .i64 0, .int .i64 (cnt (b.take i) 1), .int .i64 (cnt (b.take i) 2), .int .i64 (cnt (b.take i) 3)]]) (fun i => i ≤ b.length) (fun i => b.length - i) 0 (by omega) (by simp only [List.take_zero, cnt_nil]; exact (by exact weak_mk wkD wkH wkN wkM (by omega))) ?_
  rintro i hi
  simp only [msk_none, msk_some, msk_nil]
  have b1 := cnt_le b i 1
  have b2 := cnt_le b i 2
  have b3 := cnt_le b i 3
  rcases Nat.lt_or_ge i b.length with h4 | h4
  · obtain ⟨x, hx⟩ := some_of_lt h4
    have e1 := cnt_take hx 1
    have e2 := cnt_take hx 2
    have e3 := cnt_take hx 3
    have c1 := phase_ok x.phase
    by_cases hp : 1 ≤ x.phase ∧ x.phase ≤ 3
    · have h6 : x.phase = 1 ∨ x.phase = 2 ∨ x.phase = 3 := by omega
      rcases h6 with h6 | h6 | h6
      · simp [h6] at e1 e2 e3
        rw [h6] at c1
        repeat' first
          | with_reducible first | refine W_seq ?_ | refine W_block ?_ | refine W_skip ?_ | refine N_code ?_ | refine N_blk ?_ | refine W_exit ?_ | refine E_blk ?_ | refine E_code ?_ | refine E_blk_ne (by decide) ?_ | refine W_ret ?_ | refine R_code ?_ | refine R_blk ?_ | refine L_exit ?_ | refine L_ret ?_ | refine F_ret ?_ | refine F_out (by decide) ?_ | refine FW_ret ?_ | refine FW_out (by decide) ?_ | refine R_nil ?_
          | ((with_reducible apply W_condT); (case hb => exact rfl); (case hw => with_reducible rfl))
          | ((with_reducible apply W_condF); (case hb => exact rfl); (case hw => with_reducible rfl))
          | ((with_reducible apply W_condE); (case hb => exact rfl); (case e1 => exact sT); (case e2 => exact sT); all_goals (intro hb; first | (simp (disch := omega) only [go_sem, rws_get hx, h6] at hb; done) | (simp (disch := omega) only [go_sem, rws_get hx, h6] at hb; try omega) | try omega))
          | (with_reducible refine W_reg fun K hK => ?_)
          | (with_reducible refine W_drwR rfl mixed (by decide +kernel) fun K hK => ?_)
          | (with_reducible refine W_drw mixed (by decide +kernel) fun K hK => ?_)
          | ((with_reducible refine AO_nil (hK _ ?_)); clear hK K)
          | ((with_reducible apply D_admE); (case hop => exact rfl); (case ha => exact rfl); (case hna => exact rfl); (try case hl => exact tT); (case hg => exact gT); (case hy => exact rfl); (case ht => exact pT); (case hn => exact nT); (try case hc => exact rfl))
          | ((with_reducible apply D_adrE); (case ha => exact rfl); (case hna => exact rfl); (try case hl => exact tT); (case hg => exact gT); (case hs => simp (maxSteps := 2000000) (disch := omega) only [go_sem, rws_get hx, h6]; exact rfl); (case ht => exact pT); (case hn => exact nT); (try case hc => exact rfl))
          | ((with_reducible first | apply AO_mvE | apply V_mvE | apply D_mvE); (case hop => exact rfl); (case hg => exact gT); (try case hw => exact rfl); (try case hl => exact tT); (case hy => exact rfl); (case ht => exact pT); (case hn => exact nT); (try case hc => exact rfl))
          | ((with_reducible first | apply AO_stepE | apply V_stepE | apply D_stepE); (case hg => exact gT); (try case hw => exact rfl); (try case hl => exact tT); (case hs => simp (maxSteps := 2000000) (disch := omega) only [go_sem, rws_get hx, h6]; exact rfl); (case ht => exact pT); (case hn => exact nT); (try case hc => exact rfl))
          | ((with_reducible first | apply AO_skipE | apply V_skipE | apply D_skipE); (case hg => exact gF); (case ht => exact pT); (case hn => exact nT); (try case hc => exact rfl))
          | ((with_reducible first | apply V_end | apply D_end); (case hi => exact rfl); (try case hind => kernel_rfl); (case hn => exact nT); (with_reducible refine hK _ ?_); clear hK K)
          | ((with_reducible first | apply AO_callE | apply V_callE | apply D_callE); (case hg => exact gT); (case ho => exact rfl); (case ht => exact rfl); (case hp' => first | exact c1); (case htm => exact pT); (case hn => exact nT); (try case hc => exact rfl))
          | ((with_reducible apply AO_nilE); (case hg => exact gT); (case ho => exact rfl); (case ht => simp only [go_sem]; exact rfl); (case hx => exact rfl); (case hn => exact nT); intro bn hnil; (try simp (disch := omega) only [go_sem, rws_get hx, h6] at hnil); dsimp only [putT, List.set_cons_succ, List.set_cons_zero])
          | ((fail_if_success ((with_reducible first | apply AO_stepE | apply V_stepE | apply D_stepE); (case hg => exact gT))); (fail_if_success ((with_reducible first | apply AO_skipE | apply V_skipE | apply D_skipE); (case hg => exact gF))); (with_reducible first | apply AO_split | apply V_split | apply D_split); (case hg => exact rfl); (case hd => exact rfl); (case hb => exact rfl); (case e1 => exact sT); (case e2 => exact sT); all_goals (intro hg; first | (simp (disch := omega) only [go_sem, rws_get hx, h6] at hg; try omega) | try omega))
        exact L_next ⟨i + 1, by omega, by omega, (by rw [e1, e2, e3]; exact (by exact weak_mk wkD wkH wkN wkM (by omega)))⟩
      · simp [h6] at e1 e2 e3
        rw [h6] at c1
        repeat' first
          | with_reducible first | refine W_seq ?_ | refine W_block ?_ | refine W_skip ?_ | refine N_code ?_ | refine N_blk ?_ | refine W_exit ?_ | refine E_blk ?_ | refine E_code ?_ | refine E_blk_ne (by decide) ?_ | refine W_ret ?_ | refine R_code ?_ | refine R_blk ?_ | refine L_exit ?_ | refine L_ret ?_ | refine F_ret ?_ | refine F_out (by decide) ?_ | refine FW_ret ?_ | refine FW_out (by decide) ?_ | refine R_nil ?_
          | ((with_reducible apply W_condT); (case hb => exact rfl); (case hw => with_reducible rfl))
          | ((with_reducible apply W_condF); (case hb => exact rfl); (case hw => with_reducible rfl))
          | ((with_reducible apply W_condE); (case hb => exact rfl); (case e1 => exact sT); (case e2 => exact sT); all_goals (intro hb; first | (simp (disch := omega) only [go_sem, rws_get hx, h6] at hb; done) | (simp (disch := omega) only [go_sem, rws_get hx, h6] at hb; try omega) | try omega))
          | (with_reducible refine W_reg fun K hK => ?_)
          | (with_reducible refine W_drwR rfl mixed (by decide +kernel) fun K hK => ?_)
          | (with_reducible refine W_drw mixed (by decide +kernel) fun K hK => ?_)
          | ((with_reducible refine AO_nil (hK _ ?_)); clear hK K)
          | ((with_reducible apply D_admE); (case hop => exact rfl); (case ha => exact rfl); (case hna => exact rfl); (try case hl => exact tT); (case hg => exact gT); (case hy => exact rfl); (case ht => exact pT); (case hn => exact nT); (try case hc => exact rfl))
          | ((with_reducible apply D_adrE); (case ha => exact rfl); (case hna => exact rfl); (try case hl => exact tT); (case hg => exact gT); (case hs => simp (maxSteps := 2000000) (disch := omega) only [go_sem, rws_get hx, h6]; exact rfl); (case ht => exact pT); (case hn => exact nT); (try case hc => exact rfl))
          | ((with_reducible first | apply AO_mvE | apply V_mvE | apply D_mvE); (case hop => exact rfl); (case hg => exact gT); (try case hw => exact rfl); (try case hl => exact tT); (case hy => exact rfl); (case ht => exact pT); (case hn => exact nT); (try case hc => exact rfl))
          | ((with_reducible first | apply AO_stepE | apply V_stepE | apply D_stepE); (case hg => exact gT); (try case hw => exact rfl); (try case hl => exact tT); (case hs => simp (maxSteps := 2000000) (disch := omega) only [go_sem, rws_get hx, h6]; exact rfl); (case ht => exact pT); (case hn => exact nT); (try case hc => exact rfl))
          | ((with_reducible first | apply AO_skipE | apply V_skipE | apply D_skipE); (case hg => exact gF); (case ht => exact pT); (case hn => exact nT); (try case hc => exact rfl))
          | ((with_reducible first | apply V_end | apply D_end); (case hi => exact rfl); (try case hind => kernel_rfl); (case hn => exact nT); (with_reducible refine hK _ ?_); clear hK K)
          | ((with_reducible first | apply AO_callE | apply V_callE | apply D_callE); (case hg => exact gT); (case ho => exact rfl); (case ht => exact rfl); (case hp' => first | exact c1); (case htm => exact pT); (case hn => exact nT); (try case hc => exact rfl))
          | ((with_reducible apply AO_nilE); (case hg => exact gT); (case ho => exact rfl); (case ht => simp only [go_sem]; exact rfl); (case hx => exact rfl); (case hn => exact nT); intro bn hnil; (try simp (disch := omega) only [go_sem, rws_get hx, h6] at hnil); dsimp only [putT, List.set_cons_succ, List.set_cons_zero])
          | ((fail_if_success ((with_reducible first | apply AO_stepE | apply V_stepE | apply D_stepE); (case hg => exact gT))); (fail_if_success ((with_reducible first | apply AO_skipE | apply V_skipE | apply D_skipE); (case hg => exact gF))); (with_reducible first | apply AO_split | apply V_split | apply D_split); (case hg => exact rfl); (case hd => exact rfl); (case hb => exact rfl); (case e1 => exact sT); (case e2 => exact sT); all_goals (intro hg; first | (simp (disch := omega) only [go_sem, rws_get hx, h6] at hg; try omega) | try omega))
        exact L_next ⟨i + 1, by omega, by omega, (by rw [e1, e2, e3]; exact (by exact weak_mk wkD wkH wkN wkM (by omega)))⟩
      · simp [h6] at e1 e2 e3
        rw [h6] at c1
        repeat' first
          | with_reducible first | refine W_seq ?_ | refine W_block ?_ | refine W_skip ?_ | refine N_code ?_ | refine N_blk ?_ | refine W_exit ?_ | refine E_blk ?_ | refine E_code ?_ | refine E_blk_ne (by decide) ?_ | refine W_ret ?_ | refine R_code ?_ | refine R_blk ?_ | refine L_exit ?_ | refine L_ret ?_ | refine F_ret ?_ | refine F_out (by decide) ?_ | refine FW_ret ?_ | refine FW_out (by decide) ?_ | refine R_nil ?_
          | ((with_reducible apply W_condT); (case hb => exact rfl); (case hw => with_reducible rfl))
          | ((with_reducible apply W_condF); (case hb => exact rfl); (case hw => with_reducible rfl))
          | ((with_reducible apply W_condE); (case hb => exact rfl); (case e1 => exact sT); (case e2 => exact sT); all_goals (intro hb; first | (simp (disch := omega) only [go_sem, rws_get hx, h6] at hb; done) | (simp (disch := omega) only [go_sem, rws_get hx, h6] at hb; try omega) | try omega))
          | (with_reducible refine W_reg fun K hK => ?_)
          | (with_reducible refine W_drwR rfl mixed (by decide +kernel) fun K hK => ?_)
          | (with_reducible refine W_drw mixed (by decide +kernel) fun K hK => ?_)
          | ((with_reducible refine AO_nil (hK _ ?_)); clear hK K)
          | ((with_reducible apply D_admE); (case hop => exact rfl); (case ha => exact rfl); (case hna => exact rfl); (try case hl => exact tT); (case hg => exact gT); (case hy => exact rfl); (case ht => exact pT); (case hn => exact nT); (try case hc => exact rfl))
          | ((with_reducible apply D_adrE); (case ha => exact rfl); (case hna => exact rfl); (try case hl => exact tT); (case hg => exact gT); (case hs => simp (maxSteps := 2000000) (disch := omega) only [go_sem, rws_get hx, h6]; exact rfl); (case ht => exact pT); (case hn => exact nT); (try case hc => exact rfl))
          | ((with_reducible first | apply AO_mvE | apply V_mvE | apply D_mvE); (case hop => exact rfl); (case hg => exact gT); (try case hw => exact rfl); (try case hl => exact tT); (case hy => exact rfl); (case ht => exact pT); (case hn => exact nT); (try case hc => exact rfl))
          | ((with_reducible first | apply AO_stepE | apply V_stepE | apply D_stepE); (case hg => exact gT); (try case hw => exact rfl); (try case hl => exact tT); (case hs => simp (maxSteps := 2000000) (disch := omega) only [go_sem, rws_get hx, h6]; exact rfl); (case ht => exact pT); (case hn => exact nT); (try case hc => exact rfl))
          | ((with_reducible first | apply AO_skipE | apply V_skipE | apply D_skipE); (case hg => exact gF); (case ht => exact pT); (case hn => exact nT); (try case hc => exact rfl))
          | ((with_reducible first | apply V_end | apply D_end); (case hi => exact rfl); (try case hind => kernel_rfl); (case hn => exact nT); (with_reducible refine hK _ ?_); clear hK K)
          | ((with_reducible first | apply AO_callE | apply V_callE | apply D_callE); (case hg => exact gT); (case ho => exact rfl); (case ht => exact rfl); (case hp' => first | exact c1); (case htm => exact pT); (case hn => exact nT); (try case hc => exact rfl))
          | ((with_reducible apply AO_nilE); (case hg => exact gT); (case ho => exact rfl); (case ht => simp only [go_sem]; exact rfl); (case hx => exact rfl); (case hn => exact nT); intro bn hnil; (try simp (disch := omega) only [go_sem, rws_get hx, h6] at hnil); dsimp only [putT, List.set_cons_succ, List.set_cons_zero])
          | ((fail_if_success ((with_reducible first | apply AO_stepE | apply V_stepE | apply D_stepE); (case hg => exact gT))); (fail_if_success ((with_reducible first | apply AO_skipE | apply V_skipE | apply D_skipE); (case hg => exact gF))); (with_reducible first | apply AO_split | apply V_split | apply D_split); (case hg => exact rfl); (case hd => exact rfl); (case hb => exact rfl); (case e1 => exact sT); (case e2 => exact sT); all_goals (intro hg; first | (simp (disch := omega) only [go_sem, rws_get hx, h6] at hg; try omega) | try omega))
        exact L_next ⟨i + 1, by omega, by omega, (by rw [e1, e2, e3]; exact (by exact weak_mk wkD wkH wkN wkM (by omega)))⟩
    · rw [if_neg (by omega), Int.add_zero] at e1 e2 e3
      repeat' first
        | with_reducible first | refine W_seq ?_ | refine W_block ?_ | refine W_skip ?_ | refine N_code ?_ | refine N_blk ?_ | refine W_exit ?_ | refine E_blk ?_ | refine E_code ?_ | refine E_blk_ne (by decide) ?_ | refine W_ret ?_ | refine R_code ?_ | refine R_blk ?_ | refine L_exit ?_ | refine L_ret ?_ | refine F_ret ?_ | refine F_out (by decide) ?_ | refine FW_ret ?_ | refine FW_out (by decide) ?_ | refine R_nil ?_
        | ((with_reducible apply W_condT); (case hb => exact rfl); (case hw => with_reducible rfl))
        | ((with_reducible apply W_condF); (case hb => exact rfl); (case hw => with_reducible rfl))
        | ((with_reducible apply W_condE); (case hb => exact rfl); (case e1 => exact sT); (case e2 => exact sT); all_goals (intro hb; first | (simp (disch := omega) only [go_sem, rws_get hx] at hb; done) | (simp (disch := omega) only [go_sem, rws_get hx] at hb; try omega) | try omega))
        | (with_reducible refine W_reg fun K hK => ?_)
        | (with_reducible refine W_drwR rfl mixed (by decide +kernel) fun K hK => ?_)
        | (with_reducible refine W_drw mixed (by decide +kernel) fun K hK => ?_)
        | ((with_reducible refine AO_nil (hK _ ?_)); clear hK K)
        | ((with_reducible apply D_admE); (case hop => exact rfl); (case ha => exact rfl); (case hna => exact rfl); (try case hl => exact tT); (case hg => exact gT); (case hy => exact rfl); (case ht => exact pT); (case hn => exact nT); (try case hc => exact rfl))
        | ((with_reducible apply D_adrE); (case ha => exact rfl); (case hna => exact rfl); (try case hl => exact tT); (case hg => exact gT); (case hs => simp (maxSteps := 2000000) (disch := omega) only [go_sem, rws_get hx]; exact rfl); (case ht => exact pT); (case hn => exact nT); (try case hc => exact rfl))
        | ((with_reducible first | apply AO_mvE | apply V_mvE | apply D_mvE); (case hop => exact rfl); (case hg => exact gT); (try case hw => exact rfl); (try case hl => exact tT); (case hy => exact rfl); (case ht => exact pT); (case hn => exact nT); (try case hc => exact rfl))
        | ((with_reducible first | apply AO_stepE | apply V_stepE | apply D_stepE); (case hg => exact gT); (try case hw => exact rfl); (try case hl => exact tT); (case hs => simp (maxSteps := 2000000) (disch := omega) only [go_sem, rws_get hx]; exact rfl); (case ht => exact pT); (case hn => exact nT); (try case hc => exact rfl))
        | ((with_reducible first | apply AO_skipE | apply V_skipE | apply D_skipE); (case hg => exact gF); (case ht => exact pT); (case hn => exact nT); (try case hc => exact rfl))
        | ((with_reducible first | apply V_end | apply D_end); (case hi => exact rfl); (try case hind => kernel_rfl); (case hn => exact nT); (with_reducible refine hK _ ?_); clear hK K)
        | ((with_reducible first | apply AO_callE | apply V_callE | apply D_callE); (case hg => exact gT); (case ho => exact rfl); (case ht => exact rfl); (case hp' => first | exact c1); (case htm => exact pT); (case hn => exact nT); (try case hc => exact rfl))
        | ((with_reducible apply AO_nilE); (case hg => exact gT); (case ho => exact rfl); (case ht => simp only [go_sem]; exact rfl); (case hx => exact rfl); (case hn => exact nT); intro bn hnil; (try simp (disch := omega) only [go_sem, rws_get hx] at hnil); dsimp only [putT, List.set_cons_succ, List.set_cons_zero])
        | ((fail_if_success ((with_reducible first | apply AO_stepE | apply V_stepE | apply D_stepE); (case hg => exact gT))); (fail_if_success ((with_reducible first | apply AO_skipE | apply V_skipE | apply D_skipE); (case hg => exact gF))); (with_reducible first | apply AO_split | apply V_split | apply D_split); (case hg => exact rfl); (case hd => exact rfl); (case hb => exact rfl); (case e1 => exact sT); (case e2 => exact sT); all_goals (intro hg; first | (simp (disch := omega) only [go_sem, rws_get hx] at hg; try omega) | try omega))
      exact L_next ⟨i + 1, by omega, by omega, (by rw [e1, e2, e3]; exact (by exact weak_mk wkD wkH wkN wkM (by omega)))⟩
  · obtain rfl : i = b.length := by omega
    rw [List.take_length]
    repeat' first
      | with_reducible first | refine W_seq ?_ | refine W_block ?_ | refine W_skip ?_ | refine N_code ?_ | refine N_blk ?_ | refine W_exit ?_ | refine E_blk ?_ | refine E_code ?_ | refine E_blk_ne (by decide) ?_ | refine W_ret ?_ | refine R_code ?_ | refine R_blk ?_ | refine L_exit ?_ | refine L_ret ?_ | refine F_ret ?_ | refine F_out (by decide) ?_ | refine FW_ret ?_ | refine FW_out (by decide) ?_ | refine R_nil ?_
      | ((with_reducible apply W_condT); (case hb => exact rfl); (case hw => with_reducible rfl))
      | ((with_reducible apply W_condF); (case hb => exact rfl); (case hw => with_reducible rfl))
      | ((with_reducible apply W_condE); (case hb => exact rfl); (case e1 => exact sT); (case e2 => exact sT); all_goals (intro hb; first | (simp (disch := omega) only [go_sem] at hb; done) | (simp (disch := omega) only [go_sem] at hb; try omega) | try omega))
      | (with_reducible refine W_reg fun K hK => ?_)
      | (with_reducible refine W_drwR rfl mixed (by decide +kernel) fun K hK => ?_)
      | (with_reducible refine W_drw mixed (by decide +kernel) fun K hK => ?_)
      | ((with_reducible refine AO_nil (hK _ ?_)); clear hK K)
      | ((with_reducible apply D_admE); (case hop => exact rfl); (case ha => exact rfl); (case hna => exact rfl); (try case hl => exact tT); (case hg => exact gT); (case hy => exact rfl); (case ht => exact pT); (case hn => exact nT); (try case hc => exact rfl))
      | ((with_reducible apply D_adrE); (case ha => exact rfl); (case hna => exact rfl); (try case hl => exact tT); (case hg => exact gT); (case hs => simp (maxSteps := 2000000) (disch := omega) only [go_sem]; exact rfl); (case ht => exact pT); (case hn => exact nT); (try case hc => exact rfl))
      | ((with_reducible first | apply AO_mvE | apply V_mvE | apply D_mvE); (case hop => exact rfl); (case hg => exact gT); (try case hw => exact rfl); (try case hl => exact tT); (case hy => exact rfl); (case ht => exact pT); (case hn => exact nT); (try case hc => exact rfl))
      | ((with_reducible first | apply AO_stepE | apply V_stepE | apply D_stepE); (case hg => exact gT); (try case hw => exact rfl); (try case hl => exact tT); (case hs => simp (maxSteps := 2000000) (disch := omega) only [go_sem]; exact rfl); (case ht => exact pT); (case hn => exact nT); (try case hc => exact rfl))
      | ((with_reducible first | apply AO_skipE | apply V_skipE | apply D_skipE); (case hg => exact gF); (case ht => exact pT); (case hn => exact nT); (try case hc => exact rfl))
      | ((with_reducible first | apply V_end | apply D_end); (case hi => exact rfl); (try case hind => kernel_rfl); (case hn => exact nT); (with_reducible refine hK _ ?_); clear hK K)
      | ((with_reducible apply AO_nilE); (case hg => exact gT); (case ho => exact rfl); (case ht => simp only [go_sem]; exact rfl); (case hx => exact rfl); (case hn => exact nT); intro bn hnil; (try simp (disch := omega) only [go_sem] at hnil); dsimp only [putT, List.set_cons_succ, List.set_cons_zero])
      | ((fail_if_success ((with_reducible first | apply AO_stepE | apply V_stepE | apply D_stepE); (case hg => exact gT))); (fail_if_success ((with_reducible first | apply AO_skipE | apply V_skipE | apply D_skipE); (case hg => exact gF))); (with_reducible first | apply AO_split | apply V_split | apply D_split); (case hg => exact rfl); (case hd => exact rfl); (case hb => exact rfl); (case e1 => exact sT); (case e2 => exact sT); all_goals (intro hg; first | (simp (disch := omega) only [go_sem] at hg; try omega) | try omega))
    (with_reducible apply retQ_frz); (case h => simp (disch := omega) only [go_sem]; exact rfl); (case hq => exact rfl); (case hz => simp [Fz.int_iff, Fz.bool_iff, Fz.agg_iff, Fz.str_iff, rws_fz_iff, ri_fz_iff, Fz.tuple_iff, enc_fz_iff, enc_mem_iff, Fz.fp_iff, Fz.func_iff]); (case hf => repeat' first | exact .refl _ | (refine .tupleC ?_) | (refine .cons ?_ ?_) | exact .nil | exact .slR (.refl _) | exact .refE trivial (by simp only [go_sem]; exact rfl) (by first | rfl | (simp; done) | (simp [rws, Enc.enc]; done)) (by first | rfl | simp [rws_length]) | (refine .aggC ?_))

theorem awake_ok : PCall Try.prog 6 [] (· = .bool true) := by
  have c1 := begin_ok [] ⟨7, 1, ⟨#[]⟩⟩ (by simp)
  have c2 := move_ok [⟨7, 1, ⟨#[]⟩⟩] 7 3 (by simp)
  have c3 := find_ok [⟨7, 3, ⟨#[]⟩⟩] 7 (by simp [maxLen])
  rw [show beginB [] ⟨7, 1, ⟨#[]⟩⟩ = ([⟨7, 1, ⟨#[]⟩⟩], 0) from by decide +kernel] at c1
  rw [show moveB [⟨7, 1, ⟨#[]⟩⟩] 7 3 = ([⟨7, 3, ⟨#[]⟩⟩], 0) from by decide +kernel] at c2
  rw [show findE [⟨7, 3, ⟨#[]⟩⟩] 7 = (⟨7, 3, ⟨#[]⟩⟩, true) from by decide +kernel] at c3
  refine PCall_intro (c := Try.f6.body.getD .skip) Try.func6 rfl (by decide +kernel) (by simp [Fz.int_iff, Fz.bool_iff, Fz.agg_iff, Fz.str_iff, rws_fz_iff, ri_fz_iff, enc_mem_iff, Fz.fp_iff, Fz.func_iff]) (W_start ?_)
  simp only [Try.f6, go_sem]
  repeat' first
    | with_reducible first | refine W_seq ?_ | refine W_block ?_ | refine W_skip ?_ | refine N_code ?_ | refine N_blk ?_ | refine W_exit ?_ | refine E_blk ?_ | refine E_code ?_ | refine E_blk_ne (by decide) ?_ | refine W_ret ?_ | refine R_code ?_ | refine R_blk ?_ | refine L_exit ?_ | refine L_ret ?_ | refine F_ret ?_ | refine F_out (by decide) ?_ | refine FW_ret ?_ | refine FW_out (by decide) ?_ | refine R_nil ?_
    | ((with_reducible apply W_condT); (case hb => exact rfl); (case hw => with_reducible rfl))
    | ((with_reducible apply W_condF); (case hb => exact rfl); (case hw => with_reducible rfl))
    | ((with_reducible apply W_condE); (case hb => exact rfl); (case e1 => exact sT); (case e2 => exact sT); all_goals (intro hb; first | (simp (disch := omega) only [go_sem] at hb; done) | (simp (disch := omega) only [go_sem] at hb; try omega) | try omega))
    | (with_reducible refine W_reg fun K hK => ?_)
    | (with_reducible refine W_drwR rfl mixed (by decide +kernel) fun K hK => ?_)
    | (with_reducible refine W_drw mixed (by decide +kernel) fun K hK => ?_)
    | ((with_reducible refine AO_nil (hK _ ?_)); clear hK K)
    | ((with_reducible apply D_admE); (case hop => exact rfl); (case ha => exact rfl); (case hna => exact rfl); (try case hl => exact tT); (case hg => exact gT); (case hy => exact rfl); (case ht => exact pT); (case hn => exact nT); (try case hc => exact rfl))
    | ((with_reducible apply D_adrE); (case ha => exact rfl); (case hna => exact rfl); (try case hl => exact tT); (case hg => exact gT); (case hs => simp (maxSteps := 2000000) (disch := omega) only [go_sem]; exact rfl); (case ht => exact pT); (case hn => exact nT); (try case hc => exact rfl))
    | ((with_reducible first | apply AO_mvE | apply V_mvE | apply D_mvE); (case hop => exact rfl); (case hg => exact gT); (try case hw => exact rfl); (try case hl => exact tT); (case hy => exact rfl); (case ht => exact pT); (case hn => exact nT); (try case hc => exact rfl))
    | ((with_reducible first | apply AO_stepE | apply V_stepE | apply D_stepE); (case hg => exact gT); (try case hw => exact rfl); (try case hl => exact tT); (case hs => simp (maxSteps := 2000000) (disch := omega) only [go_sem]; exact rfl); (case ht => exact pT); (case hn => exact nT); (try case hc => exact rfl))
    | ((with_reducible first | apply AO_skipE | apply V_skipE | apply D_skipE); (case hg => exact gF); (case ht => exact pT); (case hn => exact nT); (try case hc => exact rfl))
    | ((with_reducible first | apply V_end | apply D_end); (case hi => exact rfl); (try case hind => kernel_rfl); (case hn => exact nT); (with_reducible refine hK _ ?_); clear hK K)
    | ((with_reducible first | apply AO_callE | apply V_callE | apply D_callE); (case hg => exact gT); (case ho => exact rfl); (case ht => exact rfl); (case hp' => first | exact c2 | exact c3); (case htm => exact pT); (case hn => exact nT); (try case hc => exact rfl))
    | ((with_reducible first | apply AO_callUE | apply D_callUE); (case hg => exact gT); (case ho => exact rfl); (case ht => exact rfl); (case hc => exact c1); (case hf => exact frT); (case htm => exact pT); (case hn => exact nT); (try case htc => exact rfl))
    | ((with_reducible apply AO_nilE); (case hg => exact gT); (case ho => exact rfl); (case ht => simp only [go_sem]; exact rfl); (case hx => exact rfl); (case hn => exact nT); intro bn hnil; (try simp (disch := omega) only [go_sem] at hnil); dsimp only [putT, List.set_cons_succ, List.set_cons_zero])
    | ((fail_if_success ((with_reducible first | apply AO_stepE | apply V_stepE | apply D_stepE); (case hg => exact gT))); (fail_if_success ((with_reducible first | apply AO_skipE | apply V_skipE | apply D_skipE); (case hg => exact gF))); (with_reducible first | apply AO_split | apply V_split | apply D_split); (case hg => exact rfl); (case hd => exact rfl); (case hb => exact rfl); (case e1 => exact sT); (case e2 => exact sT); all_goals (intro hg; first | (simp (disch := omega) only [go_sem] at hg; try omega) | try omega))
  (with_reducible apply retQ_frz); (case h => simp (disch := omega) only [go_sem]; exact rfl); (case hq => exact rfl); (case hz => simp [Fz.int_iff, Fz.bool_iff, Fz.agg_iff, Fz.str_iff, rws_fz_iff, ri_fz_iff, Fz.tuple_iff, enc_fz_iff, enc_mem_iff, Fz.fp_iff, Fz.func_iff]); (case hf => repeat' first | exact .refl _ | (refine .tupleC ?_) | (refine .cons ?_ ?_) | exact .nil | exact .slR (.refl _) | exact .refE trivial (by simp only [go_sem]; exact rfl) (by first | rfl | (simp; done) | (simp [rws, Enc.enc]; done)) (by first | rfl | simp [rws_length]) | (refine .aggC ?_))

end Go.Proofs.Ytenlmlhepcgpiaa
