/-
  The reference's lanes: numbers, copies, joins; walked.
-/
import Derived.Test.YtdgjelfeclgolaaF3
namespace Go.Proofs.Ytdgjelfeclgolaa
open Go Go.AM
set_option maxHeartbeats 4000000
set_option linter.unusedSimpArgs false
set_option linter.unusedVariables false

theorem rin_ok (a : Int) : PCall Try.prog 116 [.int .u64 a] (· = .int .u64 (min a 4611686018427387904)) := by
  refine PCall_intro (c := Try.f116.body.getD .skip) Try.func116 rfl (by decide +kernel) (by simp [Fz.int_iff, Fz.bool_iff, Fz.agg_iff, Fz.str_iff, rws_fz_iff, ri_fz_iff, enc_mem_iff, Fz.fp_iff, Fz.func_iff]) (W_start ?_)
  simp only [Try.f116, go_sem]
  by_cases h : a > 4611686018427387904
  · rw [show min a 4611686018427387904 = 4611686018427387904 by omega]
    repeat' first
      | with_reducible first | refine W_seq ?_ | refine W_block ?_ | refine W_skip ?_ | refine N_code ?_ | refine N_blk ?_ | refine W_exit ?_ | refine E_blk ?_ | refine E_code ?_ | refine E_blk_ne (by decide) ?_ | refine W_ret ?_ | refine R_code ?_ | refine R_blk ?_ | refine L_exit ?_ | refine L_ret ?_ | refine F_ret ?_ | refine F_out (by decide) ?_ | refine FW_ret ?_ | refine FW_out (by decide) ?_ | refine R_nil ?_
      | ((with_reducible apply W_condT); (case hb => exact rfl); (case hw => with_reducible rfl))
      | ((with_reducible apply W_condF); (case hb => exact rfl); (case hw => with_reducible rfl))
      | ((with_reducible apply W_condE); (case hb => exact rfl); (case e1 => exact sT); (case e2 => exact sT); all_goals (intro hb; first | (simp (disch := omega) only [go_sem] at hb; done) | (simp (disch := omega) only [go_sem] at hb; try omega) | try omega))
      | (with_reducible refine W_reg fun K hK => ?_)
      | (with_reducible refine W_drwR rfl mixed (by decide +kernel) fun K hK => ?_)
      | (with_reducible refine W_drw mixed (by decide +kernel) fun K hK => ?_)
      | ((with_reducible refine AO_nil (hK _ ?_)); clear hK K)
      | ((with_reducible apply D_admE); (case hop => exact rfl); (case ha => exact rfl); (case hna => exact rfl); (try case hl => exact tT); (case hg => exact gT); (case hy => exact rfl); (case ht => exact pT); (case hn => exact nT); (try case hc => exact rfl))
      | ((with_reducible apply D_adrE); (case ha => exact rfl); (case hna => exact rfl); (try case hl => exact tT); (case hg => exact gT); (case hs => simp (maxSteps := 2000000) (disch := omega) only [go_sem]; exact rfl); (case ht => exact pT); (case hn => exact nT); (try case hc => exact rfl))
      | ((with_reducible first | apply AO_mvE | apply V_mvE | apply D_mvE); (case hop => exact rfl); (case hg => exact gT); (try case hw => exact rfl); (try case hl => exact tT); (case hy => exact rfl); (case ht => exact pT); (case hn => exact nT); (try case hc => exact rfl))
      | ((with_reducible first | apply AO_stepE | apply V_stepE | apply D_stepE); (case hg => exact gT); (try case hw => exact rfl); (try case hl => exact tT); (case hs => simp (maxSteps := 2000000) (disch := omega) only [go_sem]; exact rfl); (case ht => exact pT); (case hn => exact nT); (try case hc => exact rfl))
      | ((with_reducible first | apply AO_skipE | apply V_skipE | apply D_skipE); (case hg => exact gF); (case ht => exact pT); (case hn => exact nT); (try case hc => exact rfl))
      | ((with_reducible first | apply V_end | apply D_end); (case hi => exact rfl); (try case hind => kernel_rfl); (case hn => exact nT); (with_reducible refine hK _ ?_); clear hK K)
      | ((with_reducible apply AO_nilE); (case hg => exact gT); (case ho => exact rfl); (case ht => simp only [go_sem]; exact rfl); (case hx => exact rfl); (case hn => exact nT); intro bn hnil; (try simp (disch := omega) only [go_sem] at hnil); dsimp only [putT, List.set_cons_succ, List.set_cons_zero])
      | ((fail_if_success ((with_reducible first | apply AO_stepE | apply V_stepE | apply D_stepE); (case hg => exact gT))); (fail_if_success ((with_reducible first | apply AO_skipE | apply V_skipE | apply D_skipE); (case hg => exact gF))); (with_reducible first | apply AO_split | apply V_split | apply D_split); (case hg => exact rfl); (case hd => exact rfl); (case hb => exact rfl); (case e1 => exact sT); (case e2 => exact sT); all_goals (intro hg; first | (simp (disch := omega) only [go_sem] at hg; try omega) | try omega))
    (with_reducible apply retQ_frz); (case h => simp (disch := omega) only [go_sem]; exact rfl); (case hq => exact rfl); (case hz => simp [Fz.int_iff, Fz.bool_iff, Fz.agg_iff, Fz.str_iff, rws_fz_iff, ri_fz_iff, Fz.tuple_iff, enc_fz_iff, enc_mem_iff, Fz.fp_iff, Fz.func_iff]); (case hf => repeat' first | exact .refl _ | (refine .tupleC ?_) | (refine .cons ?_ ?_) | exact .nil | exact .slR (.refl _) | exact .refE trivial (by simp only [go_sem]; exact rfl) (by first | rfl | (simp; done) | (simp [rws, Enc.enc]; done)) (by first | rfl | simp [rws_length]) | exact .refP trivial (by simp only [go_sem]; exact rfl) (by first | rfl | assumption | (simp [rws_length]; omega)) (by omega) (by first | assumption | (simp only [List.drop_zero]; assumption)) | (refine .aggC ?_))
  · rw [show min a 4611686018427387904 = a by omega]
    repeat' first
      | with_reducible first | refine W_seq ?_ | refine W_block ?_ | refine W_skip ?_ | refine N_code ?_ | refine N_blk ?_ | refine W_exit ?_ | refine E_blk ?_ | refine E_code ?_ | refine E_blk_ne (by decide) ?_ | refine W_ret ?_ | refine R_code ?_ | refine R_blk ?_ | refine L_exit ?_ | refine L_ret ?_ | refine F_ret ?_ | refine F_out (by decide) ?_ | refine FW_ret ?_ | refine FW_out (by decide) ?_ | refine R_nil ?_
      | ((with_reducible apply W_condT); (case hb => exact rfl); (case hw => with_reducible rfl))
      | ((with_reducible apply W_condF); (case hb => exact rfl); (case hw => with_reducible rfl))
      | ((with_reducible apply W_condE); (case hb => exact rfl); (case e1 => exact sT); (case e2 => exact sT); all_goals (intro hb; first | (simp (disch := omega) only [go_sem] at hb; done) | (simp (disch := omega) only [go_sem] at hb; try omega) | try omega))
      | (with_reducible refine W_reg fun K hK => ?_)
      | (with_reducible refine W_drwR rfl mixed (by decide +kernel) fun K hK => ?_)
      | (with_reducible refine W_drw mixed (by decide +kernel) fun K hK => ?_)
      | ((with_reducible refine AO_nil (hK _ ?_)); clear hK K)
      | ((with_reducible apply D_admE); (case hop => exact rfl); (case ha => exact rfl); (case hna => exact rfl); (try case hl => exact tT); (case hg => exact gT); (case hy => exact rfl); (case ht => exact pT); (case hn => exact nT); (try case hc => exact rfl))
      | ((with_reducible apply D_adrE); (case ha => exact rfl); (case hna => exact rfl); (try case hl => exact tT); (case hg => exact gT); (case hs => simp (maxSteps := 2000000) (disch := omega) only [go_sem]; exact rfl); (case ht => exact pT); (case hn => exact nT); (try case hc => exact rfl))
      | ((with_reducible first | apply AO_mvE | apply V_mvE | apply D_mvE); (case hop => exact rfl); (case hg => exact gT); (try case hw => exact rfl); (try case hl => exact tT); (case hy => exact rfl); (case ht => exact pT); (case hn => exact nT); (try case hc => exact rfl))
      | ((with_reducible first | apply AO_stepE | apply V_stepE | apply D_stepE); (case hg => exact gT); (try case hw => exact rfl); (try case hl => exact tT); (case hs => simp (maxSteps := 2000000) (disch := omega) only [go_sem]; exact rfl); (case ht => exact pT); (case hn => exact nT); (try case hc => exact rfl))
      | ((with_reducible first | apply AO_skipE | apply V_skipE | apply D_skipE); (case hg => exact gF); (case ht => exact pT); (case hn => exact nT); (try case hc => exact rfl))
      | ((with_reducible first | apply V_end | apply D_end); (case hi => exact rfl); (try case hind => kernel_rfl); (case hn => exact nT); (with_reducible refine hK _ ?_); clear hK K)
      | ((with_reducible apply AO_nilE); (case hg => exact gT); (case ho => exact rfl); (case ht => simp only [go_sem]; exact rfl); (case hx => exact rfl); (case hn => exact nT); intro bn hnil; (try simp (disch := omega) only [go_sem] at hnil); dsimp only [putT, List.set_cons_succ, List.set_cons_zero])
      | ((fail_if_success ((with_reducible first | apply AO_stepE | apply V_stepE | apply D_stepE); (case hg => exact gT))); (fail_if_success ((with_reducible first | apply AO_skipE | apply V_skipE | apply D_skipE); (case hg => exact gF))); (with_reducible first | apply AO_split | apply V_split | apply D_split); (case hg => exact rfl); (case hd => exact rfl); (case hb => exact rfl); (case e1 => exact sT); (case e2 => exact sT); all_goals (intro hg; first | (simp (disch := omega) only [go_sem] at hg; try omega) | try omega))
    (with_reducible apply retQ_frz); (case h => simp (disch := omega) only [go_sem]; exact rfl); (case hq => exact rfl); (case hz => simp [Fz.int_iff, Fz.bool_iff, Fz.agg_iff, Fz.str_iff, rws_fz_iff, ri_fz_iff, Fz.tuple_iff, enc_fz_iff, enc_mem_iff, Fz.fp_iff, Fz.func_iff]); (case hf => repeat' first | exact .refl _ | (refine .tupleC ?_) | (refine .cons ?_ ?_) | exact .nil | exact .slR (.refl _) | exact .refE trivial (by simp only [go_sem]; exact rfl) (by first | rfl | (simp; done) | (simp [rws, Enc.enc]; done)) (by first | rfl | simp [rws_length]) | exact .refP trivial (by simp only [go_sem]; exact rfl) (by first | rfl | assumption | (simp [rws_length]; omega)) (by omega) (by first | assumption | (simp only [List.drop_zero]; assumption)) | (refine .aggC ?_))

theorem radd_ok (a b : Int) (ha : 0 ≤ a) (hb : 0 ≤ b) : PCall Try.prog 98 [.int .u64 a, .int .u64 b] (· = .int .u64 (add a b)) := by
  have c1 := rin_ok a
  have c2 := rin_ok b
  have c3 := rin_ok (min a 4611686018427387904 + min b 4611686018427387904)
  refine PCall_intro (c := Try.f98.body.getD .skip) Try.func98 rfl (by decide +kernel) (by simp [Fz.int_iff, Fz.bool_iff, Fz.agg_iff, Fz.str_iff, rws_fz_iff, ri_fz_iff, enc_mem_iff, Fz.fp_iff, Fz.func_iff]) (W_start ?_)
  simp only [Try.f98, go_sem]
  repeat' first
    | with_reducible first | refine W_seq ?_ | refine W_block ?_ | refine W_skip ?_ | refine N_code ?_ | refine N_blk ?_ | refine W_exit ?_ | refine E_blk ?_ | refine E_code ?_ | refine E_blk_ne (by decide) ?_ | refine W_ret ?_ | refine R_code ?_ | refine R_blk ?_ | refine L_exit ?_ | refine L_ret ?_ | refine F_ret ?_ | refine F_out (by decide) ?_ | refine FW_ret ?_ | refine FW_out (by decide) ?_ | refine R_nil ?_
    | ((with_reducible apply W_condT); (case hb => exact rfl); (case hw => with_reducible rfl))
    | ((with_reducible apply W_condF); (case hb => exact rfl); (case hw => with_reducible rfl))
    | ((with_reducible apply W_condE); (case hb => exact rfl); (case e1 => exact sT); (case e2 => exact sT); all_goals (intro hb; first | (simp (disch := omega) only [go_sem] at hb; done) | (simp (disch := omega) only [go_sem] at hb; try omega) | try omega))
    | (with_reducible refine W_reg fun K hK => ?_)
    | (with_reducible refine W_drwR rfl mixed (by decide +kernel) fun K hK => ?_)
    | (with_reducible refine W_drw mixed (by decide +kernel) fun K hK => ?_)
    | ((with_reducible refine AO_nil (hK _ ?_)); clear hK K)
    | ((with_reducible apply D_admE); (case hop => exact rfl); (case ha => exact rfl); (case hna => exact rfl); (try case hl => exact tT); (case hg => exact gT); (case hy => exact rfl); (case ht => exact pT); (case hn => exact nT); (try case hc => exact rfl))
    | ((with_reducible apply D_adrE); (case ha => exact rfl); (case hna => exact rfl); (try case hl => exact tT); (case hg => exact gT); (case hs => simp (maxSteps := 2000000) (disch := omega) only [go_sem]; exact rfl); (case ht => exact pT); (case hn => exact nT); (try case hc => exact rfl))
    | ((with_reducible first | apply AO_mvE | apply V_mvE | apply D_mvE); (case hop => exact rfl); (case hg => exact gT); (try case hw => exact rfl); (try case hl => exact tT); (case hy => exact rfl); (case ht => exact pT); (case hn => exact nT); (try case hc => exact rfl))
    | ((with_reducible first | apply AO_stepE | apply V_stepE | apply D_stepE); (case hg => exact gT); (try case hw => exact rfl); (try case hl => exact tT); (case hs => simp (maxSteps := 2000000) (disch := omega) only [go_sem]; exact rfl); (case ht => exact pT); (case hn => exact nT); (try case hc => exact rfl))
    | ((with_reducible first | apply AO_skipE | apply V_skipE | apply D_skipE); (case hg => exact gF); (case ht => exact pT); (case hn => exact nT); (try case hc => exact rfl))
    | ((with_reducible first | apply V_end | apply D_end); (case hi => exact rfl); (try case hind => kernel_rfl); (case hn => exact nT); (with_reducible refine hK _ ?_); clear hK K)
    | ((with_reducible first | apply AO_callE | apply V_callE | apply D_callE); (case hg => exact gT); (case ho => exact rfl); (case ht => exact rfl); (case hp' => first | exact c1 | exact c2 | exact c3); (case htm => exact pT); (case hn => exact nT); (try case hc => exact rfl))
    | ((with_reducible apply AO_nilE); (case hg => exact gT); (case ho => exact rfl); (case ht => simp only [go_sem]; exact rfl); (case hx => exact rfl); (case hn => exact nT); intro bn hnil; (try simp (disch := omega) only [go_sem] at hnil); dsimp only [putT, List.set_cons_succ, List.set_cons_zero])
    | ((fail_if_success ((with_reducible first | apply AO_stepE | apply V_stepE | apply D_stepE); (case hg => exact gT))); (fail_if_success ((with_reducible first | apply AO_skipE | apply V_skipE | apply D_skipE); (case hg => exact gF))); (with_reducible first | apply AO_split | apply V_split | apply D_split); (case hg => exact rfl); (case hd => exact rfl); (case hb => exact rfl); (case e1 => exact sT); (case e2 => exact sT); all_goals (intro hg; first | (simp (disch := omega) only [go_sem] at hg; try omega) | try omega))
  (with_reducible apply retQ_frz); (case h => simp (disch := omega) only [go_sem]; exact rfl); (case hq => exact rfl); (case hz => simp [Fz.int_iff, Fz.bool_iff, Fz.agg_iff, Fz.str_iff, rws_fz_iff, ri_fz_iff, Fz.tuple_iff, enc_fz_iff, enc_mem_iff, Fz.fp_iff, Fz.func_iff]); (case hf => repeat' first | exact .refl _ | (refine .tupleC ?_) | (refine .cons ?_ ?_) | exact .nil | exact .slR (.refl _) | exact .refE trivial (by simp only [go_sem]; exact rfl) (by first | rfl | (simp; done) | (simp [rws, Enc.enc]; done)) (by first | rfl | simp [rws_length]) | exact .refP trivial (by simp only [go_sem]; exact rfl) (by first | rfl | assumption | (simp [rws_length]; omega)) (by omega) (by first | assumption | (simp only [List.drop_zero]; assumption)) | (refine .aggC ?_))

theorem rwid_ok (n : Int) : PCall Try.prog 46 [.int .i64 n] (· = .int .i64 (wid n)) := by
  refine PCall_intro (c := Try.f46.body.getD .skip) Try.func46 rfl (by decide +kernel) (by simp [Fz.int_iff, Fz.bool_iff, Fz.agg_iff, Fz.str_iff, rws_fz_iff, ri_fz_iff, enc_mem_iff, Fz.fp_iff, Fz.func_iff]) (W_start ?_)
  simp only [Try.f46, go_sem]
  rcases Int.lt_or_le n 1 with h | h
  · rw [show wid n = 1 by unfold wid; omega]
    repeat' first
      | with_reducible first | refine W_seq ?_ | refine W_block ?_ | refine W_skip ?_ | refine N_code ?_ | refine N_blk ?_ | refine W_exit ?_ | refine E_blk ?_ | refine E_code ?_ | refine E_blk_ne (by decide) ?_ | refine W_ret ?_ | refine R_code ?_ | refine R_blk ?_ | refine L_exit ?_ | refine L_ret ?_ | refine F_ret ?_ | refine F_out (by decide) ?_ | refine FW_ret ?_ | refine FW_out (by decide) ?_ | refine R_nil ?_
      | ((with_reducible apply W_condT); (case hb => exact rfl); (case hw => with_reducible rfl))
      | ((with_reducible apply W_condF); (case hb => exact rfl); (case hw => with_reducible rfl))
      | ((with_reducible apply W_condE); (case hb => exact rfl); (case e1 => exact sT); (case e2 => exact sT); all_goals (intro hb; first | (simp (disch := omega) only [go_sem] at hb; done) | (simp (disch := omega) only [go_sem] at hb; try omega) | try omega))
      | (with_reducible refine W_reg fun K hK => ?_)
      | (with_reducible refine W_drwR rfl mixed (by decide +kernel) fun K hK => ?_)
      | (with_reducible refine W_drw mixed (by decide +kernel) fun K hK => ?_)
      | ((with_reducible refine AO_nil (hK _ ?_)); clear hK K)
      | ((with_reducible apply D_admE); (case hop => exact rfl); (case ha => exact rfl); (case hna => exact rfl); (try case hl => exact tT); (case hg => exact gT); (case hy => exact rfl); (case ht => exact pT); (case hn => exact nT); (try case hc => exact rfl))
      | ((with_reducible apply D_adrE); (case ha => exact rfl); (case hna => exact rfl); (try case hl => exact tT); (case hg => exact gT); (case hs => simp (maxSteps := 2000000) (disch := omega) only [go_sem]; exact rfl); (case ht => exact pT); (case hn => exact nT); (try case hc => exact rfl))
      | ((with_reducible first | apply AO_mvE | apply V_mvE | apply D_mvE); (case hop => exact rfl); (case hg => exact gT); (try case hw => exact rfl); (try case hl => exact tT); (case hy => exact rfl); (case ht => exact pT); (case hn => exact nT); (try case hc => exact rfl))
      | ((with_reducible first | apply AO_stepE | apply V_stepE | apply D_stepE); (case hg => exact gT); (try case hw => exact rfl); (try case hl => exact tT); (case hs => simp (maxSteps := 2000000) (disch := omega) only [go_sem]; exact rfl); (case ht => exact pT); (case hn => exact nT); (try case hc => exact rfl))
      | ((with_reducible first | apply AO_skipE | apply V_skipE | apply D_skipE); (case hg => exact gF); (case ht => exact pT); (case hn => exact nT); (try case hc => exact rfl))
      | ((with_reducible first | apply V_end | apply D_end); (case hi => exact rfl); (try case hind => kernel_rfl); (case hn => exact nT); (with_reducible refine hK _ ?_); clear hK K)
      | ((with_reducible apply AO_nilE); (case hg => exact gT); (case ho => exact rfl); (case ht => simp only [go_sem]; exact rfl); (case hx => exact rfl); (case hn => exact nT); intro bn hnil; (try simp (disch := omega) only [go_sem] at hnil); dsimp only [putT, List.set_cons_succ, List.set_cons_zero])
      | ((fail_if_success ((with_reducible first | apply AO_stepE | apply V_stepE | apply D_stepE); (case hg => exact gT))); (fail_if_success ((with_reducible first | apply AO_skipE | apply V_skipE | apply D_skipE); (case hg => exact gF))); (with_reducible first | apply AO_split | apply V_split | apply D_split); (case hg => exact rfl); (case hd => exact rfl); (case hb => exact rfl); (case e1 => exact sT); (case e2 => exact sT); all_goals (intro hg; first | (simp (disch := omega) only [go_sem] at hg; try omega) | try omega))
    (with_reducible apply retQ_frz); (case h => simp (disch := omega) only [go_sem]; exact rfl); (case hq => exact rfl); (case hz => simp [Fz.int_iff, Fz.bool_iff, Fz.agg_iff, Fz.str_iff, rws_fz_iff, ri_fz_iff, Fz.tuple_iff, enc_fz_iff, enc_mem_iff, Fz.fp_iff, Fz.func_iff]); (case hf => repeat' first | exact .refl _ | (refine .tupleC ?_) | (refine .cons ?_ ?_) | exact .nil | exact .slR (.refl _) | exact .refE trivial (by simp only [go_sem]; exact rfl) (by first | rfl | (simp; done) | (simp [rws, Enc.enc]; done)) (by first | rfl | simp [rws_length]) | exact .refP trivial (by simp only [go_sem]; exact rfl) (by first | rfl | assumption | (simp [rws_length]; omega)) (by omega) (by first | assumption | (simp only [List.drop_zero]; assumption)) | (refine .aggC ?_))
  · rcases Int.lt_or_le 16 n with h2 | h2
    · rw [show wid n = 16 by unfold wid; omega]
      repeat' first
        | with_reducible first | refine W_seq ?_ | refine W_block ?_ | refine W_skip ?_ | refine N_code ?_ | refine N_blk ?_ | refine W_exit ?_ | refine E_blk ?_ | refine E_code ?_ | refine E_blk_ne (by decide) ?_ | refine W_ret ?_ | refine R_code ?_ | refine R_blk ?_ | refine L_exit ?_ | refine L_ret ?_ | refine F_ret ?_ | refine F_out (by decide) ?_ | refine FW_ret ?_ | refine FW_out (by decide) ?_ | refine R_nil ?_
        | ((with_reducible apply W_condT); (case hb => exact rfl); (case hw => with_reducible rfl))
        | ((with_reducible apply W_condF); (case hb => exact rfl); (case hw => with_reducible rfl))
        | ((with_reducible apply W_condE); (case hb => exact rfl); (case e1 => exact sT); (case e2 => exact sT); all_goals (intro hb; first | (simp (disch := omega) only [go_sem] at hb; done) | (simp (disch := omega) only [go_sem] at hb; try omega) | try omega))
        | (with_reducible refine W_reg fun K hK => ?_)
        | (with_reducible refine W_drwR rfl mixed (by decide +kernel) fun K hK => ?_)
        | (with_reducible refine W_drw mixed (by decide +kernel) fun K hK => ?_)
        | ((with_reducible refine AO_nil (hK _ ?_)); clear hK K)
        | ((with_reducible apply D_admE); (case hop => exact rfl); (case ha => exact rfl); (case hna => exact rfl); (try case hl => exact tT); (case hg => exact gT); (case hy => exact rfl); (case ht => exact pT); (case hn => exact nT); (try case hc => exact rfl))
        | ((with_reducible apply D_adrE); (case ha => exact rfl); (case hna => exact rfl); (try case hl => exact tT); (case hg => exact gT); (case hs => simp (maxSteps := 2000000) (disch := omega) only [go_sem]; exact rfl); (case ht => exact pT); (case hn => exact nT); (try case hc => exact rfl))
        | ((with_reducible first | apply AO_mvE | apply V_mvE | apply D_mvE); (case hop => exact rfl); (case hg => exact gT); (try case hw => exact rfl); (try case hl => exact tT); (case hy => exact rfl); (case ht => exact pT); (case hn => exact nT); (try case hc => exact rfl))
        | ((with_reducible first | apply AO_stepE | apply V_stepE | apply D_stepE); (case hg => exact gT); (try case hw => exact rfl); (try case hl => exact tT); (case hs => simp (maxSteps := 2000000) (disch := omega) only [go_sem]; exact rfl); (case ht => exact pT); (case hn => exact nT); (try case hc => exact rfl))
        | ((with_reducible first | apply AO_skipE | apply V_skipE | apply D_skipE); (case hg => exact gF); (case ht => exact pT); (case hn => exact nT); (try case hc => exact rfl))
        | ((with_reducible first | apply V_end | apply D_end); (case hi => exact rfl); (try case hind => kernel_rfl); (case hn => exact nT); (with_reducible refine hK _ ?_); clear hK K)
        | ((with_reducible apply AO_nilE); (case hg => exact gT); (case ho => exact rfl); (case ht => simp only [go_sem]; exact rfl); (case hx => exact rfl); (case hn => exact nT); intro bn hnil; (try simp (disch := omega) only [go_sem] at hnil); dsimp only [putT, List.set_cons_succ, List.set_cons_zero])
        | ((fail_if_success ((with_reducible first | apply AO_stepE | apply V_stepE | apply D_stepE); (case hg => exact gT))); (fail_if_success ((with_reducible first | apply AO_skipE | apply V_skipE | apply D_skipE); (case hg => exact gF))); (with_reducible first | apply AO_split | apply V_split | apply D_split); (case hg => exact rfl); (case hd => exact rfl); (case hb => exact rfl); (case e1 => exact sT); (case e2 => exact sT); all_goals (intro hg; first | (simp (disch := omega) only [go_sem] at hg; try omega) | try omega))
      (with_reducible apply retQ_frz); (case h => simp (disch := omega) only [go_sem]; exact rfl); (case hq => exact rfl); (case hz => simp [Fz.int_iff, Fz.bool_iff, Fz.agg_iff, Fz.str_iff, rws_fz_iff, ri_fz_iff, Fz.tuple_iff, enc_fz_iff, enc_mem_iff, Fz.fp_iff, Fz.func_iff]); (case hf => repeat' first | exact .refl _ | (refine .tupleC ?_) | (refine .cons ?_ ?_) | exact .nil | exact .slR (.refl _) | exact .refE trivial (by simp only [go_sem]; exact rfl) (by first | rfl | (simp; done) | (simp [rws, Enc.enc]; done)) (by first | rfl | simp [rws_length]) | exact .refP trivial (by simp only [go_sem]; exact rfl) (by first | rfl | assumption | (simp [rws_length]; omega)) (by omega) (by first | assumption | (simp only [List.drop_zero]; assumption)) | (refine .aggC ?_))
    · rw [show wid n = n by unfold wid; omega]
      repeat' first
        | with_reducible first | refine W_seq ?_ | refine W_block ?_ | refine W_skip ?_ | refine N_code ?_ | refine N_blk ?_ | refine W_exit ?_ | refine E_blk ?_ | refine E_code ?_ | refine E_blk_ne (by decide) ?_ | refine W_ret ?_ | refine R_code ?_ | refine R_blk ?_ | refine L_exit ?_ | refine L_ret ?_ | refine F_ret ?_ | refine F_out (by decide) ?_ | refine FW_ret ?_ | refine FW_out (by decide) ?_ | refine R_nil ?_
        | ((with_reducible apply W_condT); (case hb => exact rfl); (case hw => with_reducible rfl))
        | ((with_reducible apply W_condF); (case hb => exact rfl); (case hw => with_reducible rfl))
        | ((with_reducible apply W_condE); (case hb => exact rfl); (case e1 => exact sT); (case e2 => exact sT); all_goals (intro hb; first | (simp (disch := omega) only [go_sem] at hb; done) | (simp (disch := omega) only [go_sem] at hb; try omega) | try omega))
        | (with_reducible refine W_reg fun K hK => ?_)
        | (with_reducible refine W_drwR rfl mixed (by decide +kernel) fun K hK => ?_)
        | (with_reducible refine W_drw mixed (by decide +kernel) fun K hK => ?_)
        | ((with_reducible refine AO_nil (hK _ ?_)); clear hK K)
        | ((with_reducible apply D_admE); (case hop => exact rfl); (case ha => exact rfl); (case hna => exact rfl); (try case hl => exact tT); (case hg => exact gT); (case hy => exact rfl); (case ht => exact pT); (case hn => exact nT); (try case hc => exact rfl))
        | ((with_reducible apply D_adrE); (case ha => exact rfl); (case hna => exact rfl); (try case hl => exact tT); (case hg => exact gT); (case hs => simp (maxSteps := 2000000) (disch := omega) only [go_sem]; exact rfl); (case ht => exact pT); (case hn => exact nT); (try case hc => exact rfl))
        | ((with_reducible first | apply AO_mvE | apply V_mvE | apply D_mvE); (case hop => exact rfl); (case hg => exact gT); (try case hw => exact rfl); (try case hl => exact tT); (case hy => exact rfl); (case ht => exact pT); (case hn => exact nT); (try case hc => exact rfl))
        | ((with_reducible first | apply AO_stepE | apply V_stepE | apply D_stepE); (case hg => exact gT); (try case hw => exact rfl); (try case hl => exact tT); (case hs => simp (maxSteps := 2000000) (disch := omega) only [go_sem]; exact rfl); (case ht => exact pT); (case hn => exact nT); (try case hc => exact rfl))
        | ((with_reducible first | apply AO_skipE | apply V_skipE | apply D_skipE); (case hg => exact gF); (case ht => exact pT); (case hn => exact nT); (try case hc => exact rfl))
        | ((with_reducible first | apply V_end | apply D_end); (case hi => exact rfl); (try case hind => kernel_rfl); (case hn => exact nT); (with_reducible refine hK _ ?_); clear hK K)
        | ((with_reducible apply AO_nilE); (case hg => exact gT); (case ho => exact rfl); (case ht => simp only [go_sem]; exact rfl); (case hx => exact rfl); (case hn => exact nT); intro bn hnil; (try simp (disch := omega) only [go_sem] at hnil); dsimp only [putT, List.set_cons_succ, List.set_cons_zero])
        | ((fail_if_success ((with_reducible first | apply AO_stepE | apply V_stepE | apply D_stepE); (case hg => exact gT))); (fail_if_success ((with_reducible first | apply AO_skipE | apply V_skipE | apply D_skipE); (case hg => exact gF))); (with_reducible first | apply AO_split | apply V_split | apply D_split); (case hg => exact rfl); (case hd => exact rfl); (case hb => exact rfl); (case e1 => exact sT); (case e2 => exact sT); all_goals (intro hg; first | (simp (disch := omega) only [go_sem] at hg; try omega) | try omega))
      (with_reducible apply retQ_frz); (case h => simp (disch := omega) only [go_sem]; exact rfl); (case hq => exact rfl); (case hz => simp [Fz.int_iff, Fz.bool_iff, Fz.agg_iff, Fz.str_iff, rws_fz_iff, ri_fz_iff, Fz.tuple_iff, enc_fz_iff, enc_mem_iff, Fz.fp_iff, Fz.func_iff]); (case hf => repeat' first | exact .refl _ | (refine .tupleC ?_) | (refine .cons ?_ ?_) | exact .nil | exact .slR (.refl _) | exact .refE trivial (by simp only [go_sem]; exact rfl) (by first | rfl | (simp; done) | (simp [rws, Enc.enc]; done)) (by first | rfl | simp [rws_length]) | exact .refP trivial (by simp only [go_sem]; exact rfl) (by first | rfl | assumption | (simp [rws_length]; omega)) (by omega) (by first | assumption | (simp only [List.drop_zero]; assumption)) | (refine .aggC ?_))

theorem rgue_ok (n : Int) : PCall Try.prog 99 [.int .i64 n] (· = .int .i64 (gue n)) := by
  refine PCall_intro (c := Try.f99.body.getD .skip) Try.func99 rfl (by decide +kernel) (by simp [Fz.int_iff, Fz.bool_iff, Fz.agg_iff, Fz.str_iff, rws_fz_iff, ri_fz_iff, enc_mem_iff, Fz.fp_iff, Fz.func_iff]) (W_start ?_)
  simp only [Try.f99, go_sem]
  rcases Int.lt_or_le n 1 with h | h
  · rw [show gue n = 1 by unfold gue; omega]
    repeat' first
      | with_reducible first | refine W_seq ?_ | refine W_block ?_ | refine W_skip ?_ | refine N_code ?_ | refine N_blk ?_ | refine W_exit ?_ | refine E_blk ?_ | refine E_code ?_ | refine E_blk_ne (by decide) ?_ | refine W_ret ?_ | refine R_code ?_ | refine R_blk ?_ | refine L_exit ?_ | refine L_ret ?_ | refine F_ret ?_ | refine F_out (by decide) ?_ | refine FW_ret ?_ | refine FW_out (by decide) ?_ | refine R_nil ?_
      | ((with_reducible apply W_condT); (case hb => exact rfl); (case hw => with_reducible rfl))
      | ((with_reducible apply W_condF); (case hb => exact rfl); (case hw => with_reducible rfl))
      | ((with_reducible apply W_condE); (case hb => exact rfl); (case e1 => exact sT); (case e2 => exact sT); all_goals (intro hb; first | (simp (disch := omega) only [go_sem] at hb; done) | (simp (disch := omega) only [go_sem] at hb; try omega) | try omega))
      | (with_reducible refine W_reg fun K hK => ?_)
      | (with_reducible refine W_drwR rfl mixed (by decide +kernel) fun K hK => ?_)
      | (with_reducible refine W_drw mixed (by decide +kernel) fun K hK => ?_)
      | ((with_reducible refine AO_nil (hK _ ?_)); clear hK K)
      | ((with_reducible apply D_admE); (case hop => exact rfl); (case ha => exact rfl); (case hna => exact rfl); (try case hl => exact tT); (case hg => exact gT); (case hy => exact rfl); (case ht => exact pT); (case hn => exact nT); (try case hc => exact rfl))
      | ((with_reducible apply D_adrE); (case ha => exact rfl); (case hna => exact rfl); (try case hl => exact tT); (case hg => exact gT); (case hs => simp (maxSteps := 2000000) (disch := omega) only [go_sem]; exact rfl); (case ht => exact pT); (case hn => exact nT); (try case hc => exact rfl))
      | ((with_reducible first | apply AO_mvE | apply V_mvE | apply D_mvE); (case hop => exact rfl); (case hg => exact gT); (try case hw => exact rfl); (try case hl => exact tT); (case hy => exact rfl); (case ht => exact pT); (case hn => exact nT); (try case hc => exact rfl))
      | ((with_reducible first | apply AO_stepE | apply V_stepE | apply D_stepE); (case hg => exact gT); (try case hw => exact rfl); (try case hl => exact tT); (case hs => simp (maxSteps := 2000000) (disch := omega) only [go_sem]; exact rfl); (case ht => exact pT); (case hn => exact nT); (try case hc => exact rfl))
      | ((with_reducible first | apply AO_skipE | apply V_skipE | apply D_skipE); (case hg => exact gF); (case ht => exact pT); (case hn => exact nT); (try case hc => exact rfl))
      | ((with_reducible first | apply V_end | apply D_end); (case hi => exact rfl); (try case hind => kernel_rfl); (case hn => exact nT); (with_reducible refine hK _ ?_); clear hK K)
      | ((with_reducible apply AO_nilE); (case hg => exact gT); (case ho => exact rfl); (case ht => simp only [go_sem]; exact rfl); (case hx => exact rfl); (case hn => exact nT); intro bn hnil; (try simp (disch := omega) only [go_sem] at hnil); dsimp only [putT, List.set_cons_succ, List.set_cons_zero])
      | ((fail_if_success ((with_reducible first | apply AO_stepE | apply V_stepE | apply D_stepE); (case hg => exact gT))); (fail_if_success ((with_reducible first | apply AO_skipE | apply V_skipE | apply D_skipE); (case hg => exact gF))); (with_reducible first | apply AO_split | apply V_split | apply D_split); (case hg => exact rfl); (case hd => exact rfl); (case hb => exact rfl); (case e1 => exact sT); (case e2 => exact sT); all_goals (intro hg; first | (simp (disch := omega) only [go_sem] at hg; try omega) | try omega))
    (with_reducible apply retQ_frz); (case h => simp (disch := omega) only [go_sem]; exact rfl); (case hq => exact rfl); (case hz => simp [Fz.int_iff, Fz.bool_iff, Fz.agg_iff, Fz.str_iff, rws_fz_iff, ri_fz_iff, Fz.tuple_iff, enc_fz_iff, enc_mem_iff, Fz.fp_iff, Fz.func_iff]); (case hf => repeat' first | exact .refl _ | (refine .tupleC ?_) | (refine .cons ?_ ?_) | exact .nil | exact .slR (.refl _) | exact .refE trivial (by simp only [go_sem]; exact rfl) (by first | rfl | (simp; done) | (simp [rws, Enc.enc]; done)) (by first | rfl | simp [rws_length]) | exact .refP trivial (by simp only [go_sem]; exact rfl) (by first | rfl | assumption | (simp [rws_length]; omega)) (by omega) (by first | assumption | (simp only [List.drop_zero]; assumption)) | (refine .aggC ?_))
  · rcases Int.lt_or_le 1000 n with h2 | h2
    · rw [show gue n = 1000 by unfold gue; omega]
      repeat' first
        | with_reducible first | refine W_seq ?_ | refine W_block ?_ | refine W_skip ?_ | refine N_code ?_ | refine N_blk ?_ | refine W_exit ?_ | refine E_blk ?_ | refine E_code ?_ | refine E_blk_ne (by decide) ?_ | refine W_ret ?_ | refine R_code ?_ | refine R_blk ?_ | refine L_exit ?_ | refine L_ret ?_ | refine F_ret ?_ | refine F_out (by decide) ?_ | refine FW_ret ?_ | refine FW_out (by decide) ?_ | refine R_nil ?_
        | ((with_reducible apply W_condT); (case hb => exact rfl); (case hw => with_reducible rfl))
        | ((with_reducible apply W_condF); (case hb => exact rfl); (case hw => with_reducible rfl))
        | ((with_reducible apply W_condE); (case hb => exact rfl); (case e1 => exact sT); (case e2 => exact sT); all_goals (intro hb; first | (simp (disch := omega) only [go_sem] at hb; done) | (simp (disch := omega) only [go_sem] at hb; try omega) | try omega))
        | (with_reducible refine W_reg fun K hK => ?_)
        | (with_reducible refine W_drwR rfl mixed (by decide +kernel) fun K hK => ?_)
        | (with_reducible refine W_drw mixed (by decide +kernel) fun K hK => ?_)
        | ((with_reducible refine AO_nil (hK _ ?_)); clear hK K)
        | ((with_reducible apply D_admE); (case hop => exact rfl); (case ha => exact rfl); (case hna => exact rfl); (try case hl => exact tT); (case hg => exact gT); (case hy => exact rfl); (case ht => exact pT); (case hn => exact nT); (try case hc => exact rfl))
        | ((with_reducible apply D_adrE); (case ha => exact rfl); (case hna => exact rfl); (try case hl => exact tT); (case hg => exact gT); (case hs => simp (maxSteps := 2000000) (disch := omega) only [go_sem]; exact rfl); (case ht => exact pT); (case hn => exact nT); (try case hc => exact rfl))
        | ((with_reducible first | apply AO_mvE | apply V_mvE | apply D_mvE); (case hop => exact rfl); (case hg => exact gT); (try case hw => exact rfl); (try case hl => exact tT); (case hy => exact rfl); (case ht => exact pT); (case hn => exact nT); (try case hc => exact rfl))
        | ((with_reducible first | apply AO_stepE | apply V_stepE | apply D_stepE); (case hg => exact gT); (try case hw => exact rfl); (try case hl => exact tT); (case hs => simp (maxSteps := 2000000) (disch := omega) only [go_sem]; exact rfl); (case ht => exact pT); (case hn => exact nT); (try case hc => exact rfl))
        | ((with_reducible first | apply AO_skipE | apply V_skipE | apply D_skipE); (case hg => exact gF); (case ht => exact pT); (case hn => exact nT); (try case hc => exact rfl))
        | ((with_reducible first | apply V_end | apply D_end); (case hi => exact rfl); (try case hind => kernel_rfl); (case hn => exact nT); (with_reducible refine hK _ ?_); clear hK K)
        | ((with_reducible apply AO_nilE); (case hg => exact gT); (case ho => exact rfl); (case ht => simp only [go_sem]; exact rfl); (case hx => exact rfl); (case hn => exact nT); intro bn hnil; (try simp (disch := omega) only [go_sem] at hnil); dsimp only [putT, List.set_cons_succ, List.set_cons_zero])
        | ((fail_if_success ((with_reducible first | apply AO_stepE | apply V_stepE | apply D_stepE); (case hg => exact gT))); (fail_if_success ((with_reducible first | apply AO_skipE | apply V_skipE | apply D_skipE); (case hg => exact gF))); (with_reducible first | apply AO_split | apply V_split | apply D_split); (case hg => exact rfl); (case hd => exact rfl); (case hb => exact rfl); (case e1 => exact sT); (case e2 => exact sT); all_goals (intro hg; first | (simp (disch := omega) only [go_sem] at hg; try omega) | try omega))
      (with_reducible apply retQ_frz); (case h => simp (disch := omega) only [go_sem]; exact rfl); (case hq => exact rfl); (case hz => simp [Fz.int_iff, Fz.bool_iff, Fz.agg_iff, Fz.str_iff, rws_fz_iff, ri_fz_iff, Fz.tuple_iff, enc_fz_iff, enc_mem_iff, Fz.fp_iff, Fz.func_iff]); (case hf => repeat' first | exact .refl _ | (refine .tupleC ?_) | (refine .cons ?_ ?_) | exact .nil | exact .slR (.refl _) | exact .refE trivial (by simp only [go_sem]; exact rfl) (by first | rfl | (simp; done) | (simp [rws, Enc.enc]; done)) (by first | rfl | simp [rws_length]) | exact .refP trivial (by simp only [go_sem]; exact rfl) (by first | rfl | assumption | (simp [rws_length]; omega)) (by omega) (by first | assumption | (simp only [List.drop_zero]; assumption)) | (refine .aggC ?_))
    · rw [show gue n = n by unfold gue; omega]
      repeat' first
        | with_reducible first | refine W_seq ?_ | refine W_block ?_ | refine W_skip ?_ | refine N_code ?_ | refine N_blk ?_ | refine W_exit ?_ | refine E_blk ?_ | refine E_code ?_ | refine E_blk_ne (by decide) ?_ | refine W_ret ?_ | refine R_code ?_ | refine R_blk ?_ | refine L_exit ?_ | refine L_ret ?_ | refine F_ret ?_ | refine F_out (by decide) ?_ | refine FW_ret ?_ | refine FW_out (by decide) ?_ | refine R_nil ?_
        | ((with_reducible apply W_condT); (case hb => exact rfl); (case hw => with_reducible rfl))
        | ((with_reducible apply W_condF); (case hb => exact rfl); (case hw => with_reducible rfl))
        | ((with_reducible apply W_condE); (case hb => exact rfl); (case e1 => exact sT); (case e2 => exact sT); all_goals (intro hb; first | (simp (disch := omega) only [go_sem] at hb; done) | (simp (disch := omega) only [go_sem] at hb; try omega) | try omega))
        | (with_reducible refine W_reg fun K hK => ?_)
        | (with_reducible refine W_drwR rfl mixed (by decide +kernel) fun K hK => ?_)
        | (with_reducible refine W_drw mixed (by decide +kernel) fun K hK => ?_)
        | ((with_reducible refine AO_nil (hK _ ?_)); clear hK K)
        | ((with_reducible apply D_admE); (case hop => exact rfl); (case ha => exact rfl); (case hna => exact rfl); (try case hl => exact tT); (case hg => exact gT); (case hy => exact rfl); (case ht => exact pT); (case hn => exact nT); (try case hc => exact rfl))
        | ((with_reducible apply D_adrE); (case ha => exact rfl); (case hna => exact rfl); (try case hl => exact tT); (case hg => exact gT); (case hs => simp (maxSteps := 2000000) (disch := omega) only [go_sem]; exact rfl); (case ht => exact pT); (case hn => exact nT); (try case hc => exact rfl))
        | ((with_reducible first | apply AO_mvE | apply V_mvE | apply D_mvE); (case hop => exact rfl); (case hg => exact gT); (try case hw => exact rfl); (try case hl => exact tT); (case hy => exact rfl); (case ht => exact pT); (case hn => exact nT); (try case hc => exact rfl))
        | ((with_reducible first | apply AO_stepE | apply V_stepE | apply D_stepE); (case hg => exact gT); (try case hw => exact rfl); (try case hl => exact tT); (case hs => simp (maxSteps := 2000000) (disch := omega) only [go_sem]; exact rfl); (case ht => exact pT); (case hn => exact nT); (try case hc => exact rfl))
        | ((with_reducible first | apply AO_skipE | apply V_skipE | apply D_skipE); (case hg => exact gF); (case ht => exact pT); (case hn => exact nT); (try case hc => exact rfl))
        | ((with_reducible first | apply V_end | apply D_end); (case hi => exact rfl); (try case hind => kernel_rfl); (case hn => exact nT); (with_reducible refine hK _ ?_); clear hK K)
        | ((with_reducible apply AO_nilE); (case hg => exact gT); (case ho => exact rfl); (case ht => simp only [go_sem]; exact rfl); (case hx => exact rfl); (case hn => exact nT); intro bn hnil; (try simp (disch := omega) only [go_sem] at hnil); dsimp only [putT, List.set_cons_succ, List.set_cons_zero])
        | ((fail_if_success ((with_reducible first | apply AO_stepE | apply V_stepE | apply D_stepE); (case hg => exact gT))); (fail_if_success ((with_reducible first | apply AO_skipE | apply V_skipE | apply D_skipE); (case hg => exact gF))); (with_reducible first | apply AO_split | apply V_split | apply D_split); (case hg => exact rfl); (case hd => exact rfl); (case hb => exact rfl); (case e1 => exact sT); (case e2 => exact sT); all_goals (intro hg; first | (simp (disch := omega) only [go_sem] at hg; try omega) | try omega))
      (with_reducible apply retQ_frz); (case h => simp (disch := omega) only [go_sem]; exact rfl); (case hq => exact rfl); (case hz => simp [Fz.int_iff, Fz.bool_iff, Fz.agg_iff, Fz.str_iff, rws_fz_iff, ri_fz_iff, Fz.tuple_iff, enc_fz_iff, enc_mem_iff, Fz.fp_iff, Fz.func_iff]); (case hf => repeat' first | exact .refl _ | (refine .tupleC ?_) | (refine .cons ?_ ?_) | exact .nil | exact .slR (.refl _) | exact .refE trivial (by simp only [go_sem]; exact rfl) (by first | rfl | (simp; done) | (simp [rws, Enc.enc]; done)) (by first | rfl | simp [rws_length]) | exact .refP trivial (by simp only [go_sem]; exact rfl) (by first | rfl | assumption | (simp [rws_length]; omega)) (by omega) (by first | assumption | (simp only [List.drop_zero]; assumption)) | (refine .aggC ?_))

theorem lane1 (s : Int) (n : Nat) : Nat1 fun j => .agg [.int .u64 s, .ref j n 0 n false n] := by
  refine Nat1.agg [fun _ => .int .u64 s, fun j => .ref j n 0 n false n] fun c hc => ?_
  simp only [List.mem_cons, List.not_mem_nil, or_false] at hc
  rcases hc with rfl | rfl
  · exact .const _ (.int _ _)
  · exact .ref _ _ _ _ _

theorem rcopy_ok (l : TLane) (hl : l.wait.length ≤ 4294967296) : PNew Try.prog 27 [.agg (Enc.enc l)] (fun j => .agg [.int .u64 l.start, .ref j l.wait.length 0 l.wait.length false l.wait.length]) (.arr 5 (rws l.wait)) := by
  refine PNew_body (c := Try.f27.body.getD .skip) Try.func27 rfl (by decide +kernel) (by simp [Fz.int_iff, Fz.bool_iff, Fz.agg_iff, Fz.str_iff, rws_fz_iff, ri_fz_iff, enc_mem_iff, Fz.fp_iff, Fz.func_iff]) (lane1 _ _) (rws_mem _) (W_start ?_)
  simp only [Try.f27, go_sem]
  repeat' first
    | with_reducible first | refine W_seq ?_ | refine W_block ?_ | refine W_skip ?_ | refine N_code ?_ | refine N_blk ?_ | refine W_exit ?_ | refine E_blk ?_ | refine E_code ?_ | refine E_blk_ne (by decide) ?_ | refine W_ret ?_ | refine R_code ?_ | refine R_blk ?_ | refine L_exit ?_ | refine L_ret ?_ | refine F_ret ?_ | refine F_out (by decide) ?_ | refine FW_ret ?_ | refine FW_out (by decide) ?_ | refine R_nil ?_
    | ((with_reducible apply W_condT); (case hb => exact rfl); (case hw => with_reducible rfl))
    | ((with_reducible apply W_condF); (case hb => exact rfl); (case hw => with_reducible rfl))
    | ((with_reducible apply W_condE); (case hb => exact rfl); (case e1 => exact sT); (case e2 => exact sT); all_goals (intro hb; first | (simp (disch := omega) only [go_sem] at hb; done) | (simp (disch := omega) only [go_sem] at hb; try omega) | try omega))
    | (with_reducible refine W_reg fun K hK => ?_)
    | (with_reducible refine W_drwR rfl mixed (by decide +kernel) fun K hK => ?_)
    | (with_reducible refine W_drw mixed (by decide +kernel) fun K hK => ?_)
    | ((with_reducible refine AO_nil (hK _ ?_)); clear hK K)
    | ((with_reducible apply D_admE); (case hop => exact rfl); (case ha => exact rfl); (case hna => exact rfl); (try case hl => exact tT); (case hg => exact gT); (case hy => exact rfl); (case ht => exact pT); (case hn => exact nT); (try case hc => exact rfl))
    | ((with_reducible apply D_adrE); (case ha => exact rfl); (case hna => exact rfl); (try case hl => exact tT); (case hg => exact gT); (case hs => simp (maxSteps := 2000000) (disch := omega) only [go_sem]; exact rfl); (case ht => exact pT); (case hn => exact nT); (try case hc => exact rfl))
    | ((with_reducible first | apply AO_mvE | apply V_mvE | apply D_mvE); (case hop => exact rfl); (case hg => exact gT); (try case hw => exact rfl); (try case hl => exact tT); (case hy => exact rfl); (case ht => exact pT); (case hn => exact nT); (try case hc => exact rfl))
    | ((with_reducible first | apply AO_stepE | apply V_stepE | apply D_stepE); (case hg => exact gT); (try case hw => exact rfl); (try case hl => exact tT); (case hs => simp (maxSteps := 2000000) (disch := omega) only [go_sem]; exact rfl); (case ht => exact pT); (case hn => exact nT); (try case hc => exact rfl))
    | ((with_reducible first | apply AO_skipE | apply V_skipE | apply D_skipE); (case hg => exact gF); (case ht => exact pT); (case hn => exact nT); (try case hc => exact rfl))
    | ((with_reducible first | apply V_end | apply D_end); (case hi => exact rfl); (try case hind => kernel_rfl); (case hn => exact nT); (with_reducible refine hK _ ?_); clear hK K)
    | ((with_reducible apply AO_nilE); (case hg => exact gT); (case ho => exact rfl); (case ht => simp only [go_sem]; exact rfl); (case hx => exact rfl); (case hn => exact nT); intro bn hnil; (try simp (disch := omega) only [go_sem] at hnil); dsimp only [putT, List.set_cons_succ, List.set_cons_zero])
    | ((fail_if_success ((with_reducible first | apply AO_stepE | apply V_stepE | apply D_stepE); (case hg => exact gT))); (fail_if_success ((with_reducible first | apply AO_skipE | apply V_skipE | apply D_skipE); (case hg => exact gF))); (with_reducible first | apply AO_split | apply V_split | apply D_split); (case hg => exact rfl); (case hd => exact rfl); (case hb => exact rfl); (case e1 => exact sT); (case e2 => exact sT); all_goals (intro hg; first | (simp (disch := omega) only [go_sem] at hg; try omega) | try omega))
  (with_reducible apply retU_of); (case h => simp (disch := omega) only [go_sem]; exact rfl); (case h2 => exact rfl); (case h3 => first | (simp only [go_sem]; done) | (simp only [go_sem]; exact rfl))

theorem rjoin_ok (l : TLane) (r : Int) (t : TTicket) (hl : l.wait.length ≤ 4294967295) : PCall Try.prog 31 [.agg (Enc.enc l), .int .u64 r, .agg (Enc.enc t)] (· = .agg (Enc.enc (join l r t))) := by
  have c1 := rcopy_ok l (by omega)
  have e1 := rws_snoc l.wait t
  simp only [enc_TTicket] at e1
  refine PCall_intro (c := Try.f31.body.getD .skip) Try.func31 rfl (by decide +kernel) (by simp [Fz.int_iff, Fz.bool_iff, Fz.agg_iff, Fz.str_iff, rws_fz_iff, ri_fz_iff, enc_mem_iff, Fz.fp_iff, Fz.func_iff]) (W_start ?_)
  simp only [Try.f31, go_sem]
  by_cases h0 : l.wait.length = 0
  · have e0 : join l r t = ⟨max l.start r, l.wait ++ [t]⟩ := by rw [join, if_pos h0]
    rw [e0]
    by_cases h1 : r > l.start
    · rw [show max l.start r = r by omega]
      repeat' first
        | with_reducible first | refine W_seq ?_ | refine W_block ?_ | refine W_skip ?_ | refine N_code ?_ | refine N_blk ?_ | refine W_exit ?_ | refine E_blk ?_ | refine E_code ?_ | refine E_blk_ne (by decide) ?_ | refine W_ret ?_ | refine R_code ?_ | refine R_blk ?_ | refine L_exit ?_ | refine L_ret ?_ | refine F_ret ?_ | refine F_out (by decide) ?_ | refine FW_ret ?_ | refine FW_out (by decide) ?_ | refine R_nil ?_
        | ((with_reducible apply W_condT); (case hb => exact rfl); (case hw => with_reducible rfl))
        | ((with_reducible apply W_condF); (case hb => exact rfl); (case hw => with_reducible rfl))
        | ((with_reducible apply W_condE); (case hb => exact rfl); (case e1 => exact sT); (case e2 => exact sT); all_goals (intro hb; first | (simp (disch := omega) only [go_sem, e1] at hb; done) | (simp (disch := omega) only [go_sem, e1] at hb; try omega) | try omega))
        | (with_reducible refine W_reg fun K hK => ?_)
        | (with_reducible refine W_drwR rfl mixed (by decide +kernel) fun K hK => ?_)
        | (with_reducible refine W_drw mixed (by decide +kernel) fun K hK => ?_)
        | ((with_reducible refine AO_nil (hK _ ?_)); clear hK K)
        | ((with_reducible apply D_admE); (case hop => exact rfl); (case ha => exact rfl); (case hna => exact rfl); (try case hl => exact tT); (case hg => exact gT); (case hy => exact rfl); (case ht => exact pT); (case hn => exact nT); (try case hc => exact rfl))
        | ((with_reducible apply D_adrE); (case ha => exact rfl); (case hna => exact rfl); (try case hl => exact tT); (case hg => exact gT); (case hs => simp (maxSteps := 2000000) (disch := omega) only [go_sem, e1]; exact rfl); (case ht => exact pT); (case hn => exact nT); (try case hc => exact rfl))
        | ((with_reducible first | apply AO_mvE | apply V_mvE | apply D_mvE); (case hop => exact rfl); (case hg => exact gT); (try case hw => exact rfl); (try case hl => exact tT); (case hy => exact rfl); (case ht => exact pT); (case hn => exact nT); (try case hc => exact rfl))
        | ((with_reducible first | apply AO_stepE | apply V_stepE | apply D_stepE); (case hg => exact gT); (try case hw => exact rfl); (try case hl => exact tT); (case hs => simp (maxSteps := 2000000) (disch := omega) only [go_sem, e1]; exact rfl); (case ht => exact pT); (case hn => exact nT); (try case hc => exact rfl))
        | ((with_reducible first | apply AO_skipE | apply V_skipE | apply D_skipE); (case hg => exact gF); (case ht => exact pT); (case hn => exact nT); (try case hc => exact rfl))
        | ((with_reducible first | apply V_end | apply D_end); (case hi => exact rfl); (try case hind => kernel_rfl); (case hn => exact nT); (with_reducible refine hK _ ?_); clear hK K)
        | ((with_reducible first | apply AO_newE | apply D_newE); (case hg => exact gT); (case ho => exact rfl); (case ht => exact rfl); (case hc => exact c1); (case hf => exact frT); (try case hid => exact nT); (case hy => first | (simp only [List.map_cons, List.map_nil]; exact rfl) | exact rfl); (case htm => exact pT); (case hn => exact nT); (try case htc => exact rfl))
        | ((with_reducible apply AO_nilE); (case hg => exact gT); (case ho => exact rfl); (case ht => simp only [go_sem]; exact rfl); (case hx => exact rfl); (case hn => exact nT); intro bn hnil; (try simp (disch := omega) only [go_sem, e1] at hnil); dsimp only [putT, List.set_cons_succ, List.set_cons_zero])
        | ((fail_if_success ((with_reducible first | apply AO_stepE | apply V_stepE | apply D_stepE); (case hg => exact gT))); (fail_if_success ((with_reducible first | apply AO_skipE | apply V_skipE | apply D_skipE); (case hg => exact gF))); (with_reducible first | apply AO_split | apply V_split | apply D_split); (case hg => exact rfl); (case hd => exact rfl); (case hb => exact rfl); (case e1 => exact sT); (case e2 => exact sT); all_goals (intro hg; first | (simp (disch := omega) only [go_sem, e1] at hg; try omega) | try omega))
      (with_reducible apply retQ_frz); (case h => simp (disch := omega) only [go_sem]; exact rfl); (case hq => exact rfl); (case hz => simp [Fz.int_iff, Fz.bool_iff, Fz.agg_iff, Fz.str_iff, rws_fz_iff, ri_fz_iff, Fz.tuple_iff, enc_fz_iff, enc_mem_iff, Fz.fp_iff, Fz.func_iff]); (case hf => repeat' first | exact .refl _ | (refine .tupleC ?_) | (refine .cons ?_ ?_) | exact .nil | exact .slR (.refl _) | exact .refE trivial (by simp only [go_sem]; exact rfl) (by first | rfl | (simp; done) | (simp [rws, Enc.enc]; done)) (by first | rfl | simp [rws_length]) | exact .refP trivial (by simp only [go_sem]; exact rfl) (by first | rfl | assumption | (simp [rws_length]; omega)) (by omega) (by first | assumption | (simp only [List.drop_zero]; assumption)) | (refine .aggC ?_))
    · rw [show max l.start r = l.start by omega]
      repeat' first
        | with_reducible first | refine W_seq ?_ | refine W_block ?_ | refine W_skip ?_ | refine N_code ?_ | refine N_blk ?_ | refine W_exit ?_ | refine E_blk ?_ | refine E_code ?_ | refine E_blk_ne (by decide) ?_ | refine W_ret ?_ | refine R_code ?_ | refine R_blk ?_ | refine L_exit ?_ | refine L_ret ?_ | refine F_ret ?_ | refine F_out (by decide) ?_ | refine FW_ret ?_ | refine FW_out (by decide) ?_ | refine R_nil ?_
        | ((with_reducible apply W_condT); (case hb => exact rfl); (case hw => with_reducible rfl))
        | ((with_reducible apply W_condF); (case hb => exact rfl); (case hw => with_reducible rfl))
        | ((with_reducible apply W_condE); (case hb => exact rfl); (case e1 => exact sT); (case e2 => exact sT); all_goals (intro hb; first | (simp (disch := omega) only [go_sem, e1] at hb; done) | (simp (disch := omega) only [go_sem, e1] at hb; try omega) | try omega))
        | (with_reducible refine W_reg fun K hK => ?_)
        | (with_reducible refine W_drwR rfl mixed (by decide +kernel) fun K hK => ?_)
        | (with_reducible refine W_drw mixed (by decide +kernel) fun K hK => ?_)
        | ((with_reducible refine AO_nil (hK _ ?_)); clear hK K)
        | ((with_reducible apply D_admE); (case hop => exact rfl); (case ha => exact rfl); (case hna => exact rfl); (try case hl => exact tT); (case hg => exact gT); (case hy => exact rfl); (case ht => exact pT); (case hn => exact nT); (try case hc => exact rfl))
        | ((with_reducible apply D_adrE); (case ha => exact rfl); (case hna => exact rfl); (try case hl => exact tT); (case hg => exact gT); (case hs => simp (maxSteps := 2000000) (disch := omega) only [go_sem, e1]; exact rfl); (case ht => exact pT); (case hn => exact nT); (try case hc => exact rfl))
        | ((with_reducible first | apply AO_mvE | apply V_mvE | apply D_mvE); (case hop => exact rfl); (case hg => exact gT); (try case hw => exact rfl); (try case hl => exact tT); (case hy => exact rfl); (case ht => exact pT); (case hn => exact nT); (try case hc => exact rfl))
        | ((with_reducible first | apply AO_stepE | apply V_stepE | apply D_stepE); (case hg => exact gT); (try case hw => exact rfl); (try case hl => exact tT); (case hs => simp (maxSteps := 2000000) (disch := omega) only [go_sem, e1]; exact rfl); (case ht => exact pT); (case hn => exact nT); (try case hc => exact rfl))
        | ((with_reducible first | apply AO_skipE | apply V_skipE | apply D_skipE); (case hg => exact gF); (case ht => exact pT); (case hn => exact nT); (try case hc => exact rfl))
        | ((with_reducible first | apply V_end | apply D_end); (case hi => exact rfl); (try case hind => kernel_rfl); (case hn => exact nT); (with_reducible refine hK _ ?_); clear hK K)
        | ((with_reducible first | apply AO_newE | apply D_newE); (case hg => exact gT); (case ho => exact rfl); (case ht => exact rfl); (case hc => exact c1); (case hf => exact frT); (try case hid => exact nT); (case hy => first | (simp only [List.map_cons, List.map_nil]; exact rfl) | exact rfl); (case htm => exact pT); (case hn => exact nT); (try case htc => exact rfl))
        | ((with_reducible apply AO_nilE); (case hg => exact gT); (case ho => exact rfl); (case ht => simp only [go_sem]; exact rfl); (case hx => exact rfl); (case hn => exact nT); intro bn hnil; (try simp (disch := omega) only [go_sem, e1] at hnil); dsimp only [putT, List.set_cons_succ, List.set_cons_zero])
        | ((fail_if_success ((with_reducible first | apply AO_stepE | apply V_stepE | apply D_stepE); (case hg => exact gT))); (fail_if_success ((with_reducible first | apply AO_skipE | apply V_skipE | apply D_skipE); (case hg => exact gF))); (with_reducible first | apply AO_split | apply V_split | apply D_split); (case hg => exact rfl); (case hd => exact rfl); (case hb => exact rfl); (case e1 => exact sT); (case e2 => exact sT); all_goals (intro hg; first | (simp (disch := omega) only [go_sem, e1] at hg; try omega) | try omega))
      (with_reducible apply retQ_frz); (case h => simp (disch := omega) only [go_sem]; exact rfl); (case hq => exact rfl); (case hz => simp [Fz.int_iff, Fz.bool_iff, Fz.agg_iff, Fz.str_iff, rws_fz_iff, ri_fz_iff, Fz.tuple_iff, enc_fz_iff, enc_mem_iff, Fz.fp_iff, Fz.func_iff]); (case hf => repeat' first | exact .refl _ | (refine .tupleC ?_) | (refine .cons ?_ ?_) | exact .nil | exact .slR (.refl _) | exact .refE trivial (by simp only [go_sem]; exact rfl) (by first | rfl | (simp; done) | (simp [rws, Enc.enc]; done)) (by first | rfl | simp [rws_length]) | exact .refP trivial (by simp only [go_sem]; exact rfl) (by first | rfl | assumption | (simp [rws_length]; omega)) (by omega) (by first | assumption | (simp only [List.drop_zero]; assumption)) | (refine .aggC ?_))
  · have e0 : join l r t = ⟨l.start, l.wait ++ [t]⟩ := by rw [join, if_neg h0]
    rw [e0]
    repeat' first
      | with_reducible first | refine W_seq ?_ | refine W_block ?_ | refine W_skip ?_ | refine N_code ?_ | refine N_blk ?_ | refine W_exit ?_ | refine E_blk ?_ | refine E_code ?_ | refine E_blk_ne (by decide) ?_ | refine W_ret ?_ | refine R_code ?_ | refine R_blk ?_ | refine L_exit ?_ | refine L_ret ?_ | refine F_ret ?_ | refine F_out (by decide) ?_ | refine FW_ret ?_ | refine FW_out (by decide) ?_ | refine R_nil ?_
      | ((with_reducible apply W_condT); (case hb => exact rfl); (case hw => with_reducible rfl))
      | ((with_reducible apply W_condF); (case hb => exact rfl); (case hw => with_reducible rfl))
      | ((with_reducible apply W_condE); (case hb => exact rfl); (case e1 => exact sT); (case e2 => exact sT); all_goals (intro hb; first | (simp (disch := omega) only [go_sem, e1] at hb; done) | (simp (disch := omega) only [go_sem, e1] at hb; try omega) | try omega))
      | (with_reducible refine W_reg fun K hK => ?_)
      | (with_reducible refine W_drwR rfl mixed (by decide +kernel) fun K hK => ?_)
      | (with_reducible refine W_drw mixed (by decide +kernel) fun K hK => ?_)
      | ((with_reducible refine AO_nil (hK _ ?_)); clear hK K)
      | ((with_reducible apply D_admE); (case hop => exact rfl); (case ha => exact rfl); (case hna => exact rfl); (try case hl => exact tT); (case hg => exact gT); (case hy => exact rfl); (case ht => exact pT); (case hn => exact nT); (try case hc => exact rfl))
      | ((with_reducible apply D_adrE); (case ha => exact rfl); (case hna => exact rfl); (try case hl => exact tT); (case hg => exact gT); (case hs => simp (maxSteps := 2000000) (disch := omega) only [go_sem, e1]; exact rfl); (case ht => exact pT); (case hn => exact nT); (try case hc => exact rfl))
      | ((with_reducible first | apply AO_mvE | apply V_mvE | apply D_mvE); (case hop => exact rfl); (case hg => exact gT); (try case hw => exact rfl); (try case hl => exact tT); (case hy => exact rfl); (case ht => exact pT); (case hn => exact nT); (try case hc => exact rfl))
      | ((with_reducible first | apply AO_stepE | apply V_stepE | apply D_stepE); (case hg => exact gT); (try case hw => exact rfl); (try case hl => exact tT); (case hs => simp (maxSteps := 2000000) (disch := omega) only [go_sem, e1]; exact rfl); (case ht => exact pT); (case hn => exact nT); (try case hc => exact rfl))
      | ((with_reducible first | apply AO_skipE | apply V_skipE | apply D_skipE); (case hg => exact gF); (case ht => exact pT); (case hn => exact nT); (try case hc => exact rfl))
      | ((with_reducible first | apply V_end | apply D_end); (case hi => exact rfl); (try case hind => kernel_rfl); (case hn => exact nT); (with_reducible refine hK _ ?_); clear hK K)
      | ((with_reducible first | apply AO_newE | apply D_newE); (case hg => exact gT); (case ho => exact rfl); (case ht => exact rfl); (case hc => exact c1); (case hf => exact frT); (try case hid => exact nT); (case hy => first | (simp only [List.map_cons, List.map_nil]; exact rfl) | exact rfl); (case htm => exact pT); (case hn => exact nT); (try case htc => exact rfl))
      | ((with_reducible apply AO_nilE); (case hg => exact gT); (case ho => exact rfl); (case ht => simp only [go_sem]; exact rfl); (case hx => exact rfl); (case hn => exact nT); intro bn hnil; (try simp (disch := omega) only [go_sem, e1] at hnil); dsimp only [putT, List.set_cons_succ, List.set_cons_zero])
      | ((fail_if_success ((with_reducible first | apply AO_stepE | apply V_stepE | apply D_stepE); (case hg => exact gT))); (fail_if_success ((with_reducible first | apply AO_skipE | apply V_skipE | apply D_skipE); (case hg => exact gF))); (with_reducible first | apply AO_split | apply V_split | apply D_split); (case hg => exact rfl); (case hd => exact rfl); (case hb => exact rfl); (case e1 => exact sT); (case e2 => exact sT); all_goals (intro hg; first | (simp (disch := omega) only [go_sem, e1] at hg; try omega) | try omega))
    (with_reducible apply retQ_frz); (case h => simp (disch := omega) only [go_sem]; exact rfl); (case hq => exact rfl); (case hz => simp [Fz.int_iff, Fz.bool_iff, Fz.agg_iff, Fz.str_iff, rws_fz_iff, ri_fz_iff, Fz.tuple_iff, enc_fz_iff, enc_mem_iff, Fz.fp_iff, Fz.func_iff]); (case hf => repeat' first | exact .refl _ | (refine .tupleC ?_) | (refine .cons ?_ ?_) | exact .nil | exact .slR (.refl _) | exact .refE trivial (by simp only [go_sem]; exact rfl) (by first | rfl | (simp; done) | (simp [rws, Enc.enc]; done)) (by first | rfl | simp [rws_length]) | exact .refP trivial (by simp only [go_sem]; exact rfl) (by first | rfl | assumption | (simp [rws_length]; omega)) (by omega) (by first | assumption | (simp only [List.drop_zero]; assumption)) | (refine .aggC ?_))

theorem rfin_ok (l : TLane) (g : Int) (hs : 0 ≤ l.start) (hl : l.wait.length ≤ 4294967296) : PCall Try.prog 30 [.agg (Enc.enc l), .int .i64 g] (· = .tuple [.int .u64 (fin l g).1, .bool (fin l g).2]) := by
  obtain ⟨st, w⟩ := l
  simp only [] at hs hl
  refine PCall_intro (c := Try.f30.body.getD .skip) Try.func30 rfl (by decide +kernel) (by simp [Fz.int_iff, Fz.bool_iff, Fz.agg_iff, Fz.str_iff, rws_fz_iff, ri_fz_iff, enc_mem_iff, Fz.fp_iff, Fz.func_iff]) (W_start ?_)
  simp only [Try.f30, go_sem]
  rcases w with _ | ⟨t, w⟩
  · repeat' first
      | with_reducible first | refine W_seq ?_ | refine W_block ?_ | refine W_skip ?_ | refine N_code ?_ | refine N_blk ?_ | refine W_exit ?_ | refine E_blk ?_ | refine E_code ?_ | refine E_blk_ne (by decide) ?_ | refine W_ret ?_ | refine R_code ?_ | refine R_blk ?_ | refine L_exit ?_ | refine L_ret ?_ | refine F_ret ?_ | refine F_out (by decide) ?_ | refine FW_ret ?_ | refine FW_out (by decide) ?_ | refine R_nil ?_
      | ((with_reducible apply W_condT); (case hb => exact rfl); (case hw => with_reducible rfl))
      | ((with_reducible apply W_condF); (case hb => exact rfl); (case hw => with_reducible rfl))
      | ((with_reducible apply W_condE); (case hb => exact rfl); (case e1 => exact sT); (case e2 => exact sT); all_goals (intro hb; first | (simp (disch := omega) only [go_sem] at hb; done) | (simp (disch := omega) only [go_sem] at hb; try omega) | try omega))
      | (with_reducible refine W_reg fun K hK => ?_)
      | (with_reducible refine W_drwR rfl mixed (by decide +kernel) fun K hK => ?_)
      | (with_reducible refine W_drw mixed (by decide +kernel) fun K hK => ?_)
      | ((with_reducible refine AO_nil (hK _ ?_)); clear hK K)
      | ((with_reducible apply D_admE); (case hop => exact rfl); (case ha => exact rfl); (case hna => exact rfl); (try case hl => exact tT); (case hg => exact gT); (case hy => exact rfl); (case ht => exact pT); (case hn => exact nT); (try case hc => exact rfl))
      | ((with_reducible apply D_adrE); (case ha => exact rfl); (case hna => exact rfl); (try case hl => exact tT); (case hg => exact gT); (case hs => simp (maxSteps := 2000000) (disch := omega) only [go_sem]; exact rfl); (case ht => exact pT); (case hn => exact nT); (try case hc => exact rfl))
      | ((with_reducible first | apply AO_mvE | apply V_mvE | apply D_mvE); (case hop => exact rfl); (case hg => exact gT); (try case hw => exact rfl); (try case hl => exact tT); (case hy => exact rfl); (case ht => exact pT); (case hn => exact nT); (try case hc => exact rfl))
      | ((with_reducible first | apply AO_stepE | apply V_stepE | apply D_stepE); (case hg => exact gT); (try case hw => exact rfl); (try case hl => exact tT); (case hs => simp (maxSteps := 2000000) (disch := omega) only [go_sem]; exact rfl); (case ht => exact pT); (case hn => exact nT); (try case hc => exact rfl))
      | ((with_reducible first | apply AO_skipE | apply V_skipE | apply D_skipE); (case hg => exact gF); (case ht => exact pT); (case hn => exact nT); (try case hc => exact rfl))
      | ((with_reducible first | apply V_end | apply D_end); (case hi => exact rfl); (try case hind => kernel_rfl); (case hn => exact nT); (with_reducible refine hK _ ?_); clear hK K)
      | ((with_reducible apply AO_nilE); (case hg => exact gT); (case ho => exact rfl); (case ht => simp only [go_sem]; exact rfl); (case hx => exact rfl); (case hn => exact nT); intro bn hnil; (try simp (disch := omega) only [go_sem] at hnil); dsimp only [putT, List.set_cons_succ, List.set_cons_zero])
      | ((fail_if_success ((with_reducible first | apply AO_stepE | apply V_stepE | apply D_stepE); (case hg => exact gT))); (fail_if_success ((with_reducible first | apply AO_skipE | apply V_skipE | apply D_skipE); (case hg => exact gF))); (with_reducible first | apply AO_split | apply V_split | apply D_split); (case hg => exact rfl); (case hd => exact rfl); (case hb => exact rfl); (case e1 => exact sT); (case e2 => exact sT); all_goals (intro hg; first | (simp (disch := omega) only [go_sem] at hg; try omega) | try omega))
    (with_reducible apply retQ_frz); (case h => simp (disch := omega) only [go_sem]; exact rfl); (case hq => exact rfl); (case hz => simp [Fz.int_iff, Fz.bool_iff, Fz.agg_iff, Fz.str_iff, rws_fz_iff, ri_fz_iff, Fz.tuple_iff, enc_fz_iff, enc_mem_iff, Fz.fp_iff, Fz.func_iff]); (case hf => repeat' first | exact .refl _ | (refine .tupleC ?_) | (refine .cons ?_ ?_) | exact .nil | exact .slR (.refl _) | exact .refE trivial (by simp only [go_sem]; exact rfl) (by first | rfl | (simp; done) | (simp [rws, Enc.enc]; done)) (by first | rfl | simp [rws_length]) | exact .refP trivial (by simp only [go_sem]; exact rfl) (by first | rfl | assumption | (simp [rws_length]; omega)) (by omega) (by first | assumption | (simp only [List.drop_zero]; assumption)) | (refine .aggC ?_))
  · have c1 := rwid_ok t.width
    have c3 := rgue_ok g
    have b1 := work_le t g
    have b2 := wid_le t.width
    have b3 := gue_le g
    have e0 : wid t.width * gue g = work t g := rfl
    rw [← e0] at b1
    have c2 := radd_ok st (work t g) hs (by omega)
    rw [← e0] at c2
    have h0 : (rws (t :: w))[0]? = some [.int .i64 t.iD, .int .i64 t.width, .int .i64 t.seats, .int .i64 t.since, .int .i64 t.until_] := rfl
    have h1 : (t :: w).length = w.length + 1 := rfl
    have h2 : fin ⟨st, t :: w⟩ g = (add st (wid t.width * gue g), true) := rfl
    rw [h2]
    generalize t :: w = W at *
    repeat' first
      | with_reducible first | refine W_seq ?_ | refine W_block ?_ | refine W_skip ?_ | refine N_code ?_ | refine N_blk ?_ | refine W_exit ?_ | refine E_blk ?_ | refine E_code ?_ | refine E_blk_ne (by decide) ?_ | refine W_ret ?_ | refine R_code ?_ | refine R_blk ?_ | refine L_exit ?_ | refine L_ret ?_ | refine F_ret ?_ | refine F_out (by decide) ?_ | refine FW_ret ?_ | refine FW_out (by decide) ?_ | refine R_nil ?_
      | ((with_reducible apply W_condT); (case hb => exact rfl); (case hw => with_reducible rfl))
      | ((with_reducible apply W_condF); (case hb => exact rfl); (case hw => with_reducible rfl))
      | ((with_reducible apply W_condE); (case hb => exact rfl); (case e1 => exact sT); (case e2 => exact sT); all_goals (intro hb; first | (simp (disch := omega) only [go_sem, h0] at hb; done) | (simp (disch := omega) only [go_sem, h0] at hb; try omega) | try omega))
      | (with_reducible refine W_reg fun K hK => ?_)
      | (with_reducible refine W_drwR rfl mixed (by decide +kernel) fun K hK => ?_)
      | (with_reducible refine W_drw mixed (by decide +kernel) fun K hK => ?_)
      | ((with_reducible refine AO_nil (hK _ ?_)); clear hK K)
      | ((with_reducible apply D_admE); (case hop => exact rfl); (case ha => exact rfl); (case hna => exact rfl); (try case hl => exact tT); (case hg => exact gT); (case hy => exact rfl); (case ht => exact pT); (case hn => exact nT); (try case hc => exact rfl))
      | ((with_reducible apply D_adrE); (case ha => exact rfl); (case hna => exact rfl); (try case hl => exact tT); (case hg => exact gT); (case hs => simp (maxSteps := 2000000) (disch := omega) only [go_sem, h0]; exact rfl); (case ht => exact pT); (case hn => exact nT); (try case hc => exact rfl))
      | ((with_reducible first | apply AO_mvE | apply V_mvE | apply D_mvE); (case hop => exact rfl); (case hg => exact gT); (try case hw => exact rfl); (try case hl => exact tT); (case hy => exact rfl); (case ht => exact pT); (case hn => exact nT); (try case hc => exact rfl))
      | ((with_reducible first | apply AO_stepE | apply V_stepE | apply D_stepE); (case hg => exact gT); (try case hw => exact rfl); (try case hl => exact tT); (case hs => simp (maxSteps := 2000000) (disch := omega) only [go_sem, h0]; exact rfl); (case ht => exact pT); (case hn => exact nT); (try case hc => exact rfl))
      | ((with_reducible first | apply AO_skipE | apply V_skipE | apply D_skipE); (case hg => exact gF); (case ht => exact pT); (case hn => exact nT); (try case hc => exact rfl))
      | ((with_reducible first | apply V_end | apply D_end); (case hi => exact rfl); (try case hind => kernel_rfl); (case hn => exact nT); (with_reducible refine hK _ ?_); clear hK K)
      | ((with_reducible first | apply AO_callE | apply V_callE | apply D_callE); (case hg => exact gT); (case ho => exact rfl); (case ht => exact rfl); (case hp' => first | exact c1 | exact c2 | exact c3); (case htm => exact pT); (case hn => exact nT); (try case hc => exact rfl))
      | ((with_reducible apply AO_nilE); (case hg => exact gT); (case ho => exact rfl); (case ht => simp only [go_sem]; exact rfl); (case hx => exact rfl); (case hn => exact nT); intro bn hnil; (try simp (disch := omega) only [go_sem, h0] at hnil); dsimp only [putT, List.set_cons_succ, List.set_cons_zero])
      | ((fail_if_success ((with_reducible first | apply AO_stepE | apply V_stepE | apply D_stepE); (case hg => exact gT))); (fail_if_success ((with_reducible first | apply AO_skipE | apply V_skipE | apply D_skipE); (case hg => exact gF))); (with_reducible first | apply AO_split | apply V_split | apply D_split); (case hg => exact rfl); (case hd => exact rfl); (case hb => exact rfl); (case e1 => exact sT); (case e2 => exact sT); all_goals (intro hg; first | (simp (disch := omega) only [go_sem, h0] at hg; try omega) | try omega))
    (with_reducible apply retQ_frz); (case h => simp (disch := omega) only [go_sem]; exact rfl); (case hq => exact rfl); (case hz => simp [Fz.int_iff, Fz.bool_iff, Fz.agg_iff, Fz.str_iff, rws_fz_iff, ri_fz_iff, Fz.tuple_iff, enc_fz_iff, enc_mem_iff, Fz.fp_iff, Fz.func_iff]); (case hf => repeat' first | exact .refl _ | (refine .tupleC ?_) | (refine .cons ?_ ?_) | exact .nil | exact .slR (.refl _) | exact .refE trivial (by simp only [go_sem]; exact rfl) (by first | rfl | (simp; done) | (simp [rws, Enc.enc]; done)) (by first | rfl | simp [rws_length]) | exact .refP trivial (by simp only [go_sem]; exact rfl) (by first | rfl | assumption | (simp [rws_length]; omega)) (by omega) (by first | assumption | (simp only [List.drop_zero]; assumption)) | (refine .aggC ?_))

theorem rtake_ok (l : TLane) (g : Int) (hs : 0 ≤ l.start) (hl : l.wait.length ≤ 4294967296) : PCall Try.prog 28 [.agg (Enc.enc l), .int .i64 g] (· = laneV (take l g)) := by
  have c1 := rfin_ok l g hs hl
  refine PCall_intro (c := Try.f28.body.getD .skip) Try.func28 rfl (by decide +kernel) (by simp [Fz.int_iff, Fz.bool_iff, Fz.agg_iff, Fz.str_iff, rws_fz_iff, ri_fz_iff, enc_mem_iff, Fz.fp_iff, Fz.func_iff]) (W_start ?_)
  simp only [Try.f28, go_sem]
  rcases hw : l.wait with _ | ⟨t, w⟩
  · have e1 : take l g = (l, zeroT, false) := by rw [take, hw]
    have e2 : fin l g = (0, false) := by rw [fin, hw]
    rw [e1]
    rw [e2] at c1
    rw [← hw]
    repeat' first
      | with_reducible first | refine W_seq ?_ | refine W_block ?_ | refine W_skip ?_ | refine N_code ?_ | refine N_blk ?_ | refine W_exit ?_ | refine E_blk ?_ | refine E_code ?_ | refine E_blk_ne (by decide) ?_ | refine W_ret ?_ | refine R_code ?_ | refine R_blk ?_ | refine L_exit ?_ | refine L_ret ?_ | refine F_ret ?_ | refine F_out (by decide) ?_ | refine FW_ret ?_ | refine FW_out (by decide) ?_ | refine R_nil ?_
      | ((with_reducible apply W_condT); (case hb => exact rfl); (case hw => with_reducible rfl))
      | ((with_reducible apply W_condF); (case hb => exact rfl); (case hw => with_reducible rfl))
      | ((with_reducible apply W_condE); (case hb => exact rfl); (case e1 => exact sT); (case e2 => exact sT); all_goals (intro hb; first | (simp (disch := omega) only [go_sem] at hb; done) | (simp (disch := omega) only [go_sem] at hb; try omega) | try omega))
      | (with_reducible refine W_reg fun K hK => ?_)
      | (with_reducible refine W_drwR rfl mixed (by decide +kernel) fun K hK => ?_)
      | (with_reducible refine W_drw mixed (by decide +kernel) fun K hK => ?_)
      | ((with_reducible refine AO_nil (hK _ ?_)); clear hK K)
      | ((with_reducible apply D_admE); (case hop => exact rfl); (case ha => exact rfl); (case hna => exact rfl); (try case hl => exact tT); (case hg => exact gT); (case hy => exact rfl); (case ht => exact pT); (case hn => exact nT); (try case hc => exact rfl))
      | ((with_reducible apply D_adrE); (case ha => exact rfl); (case hna => exact rfl); (try case hl => exact tT); (case hg => exact gT); (case hs => simp (maxSteps := 2000000) (disch := omega) only [go_sem]; exact rfl); (case ht => exact pT); (case hn => exact nT); (try case hc => exact rfl))
      | ((with_reducible first | apply AO_mvE | apply V_mvE | apply D_mvE); (case hop => exact rfl); (case hg => exact gT); (try case hw => exact rfl); (try case hl => exact tT); (case hy => exact rfl); (case ht => exact pT); (case hn => exact nT); (try case hc => exact rfl))
      | ((with_reducible first | apply AO_stepE | apply V_stepE | apply D_stepE); (case hg => exact gT); (try case hw => exact rfl); (try case hl => exact tT); (case hs => simp (maxSteps := 2000000) (disch := omega) only [go_sem]; exact rfl); (case ht => exact pT); (case hn => exact nT); (try case hc => exact rfl))
      | ((with_reducible first | apply AO_skipE | apply V_skipE | apply D_skipE); (case hg => exact gF); (case ht => exact pT); (case hn => exact nT); (try case hc => exact rfl))
      | ((with_reducible first | apply V_end | apply D_end); (case hi => exact rfl); (try case hind => kernel_rfl); (case hn => exact nT); (with_reducible refine hK _ ?_); clear hK K)
      | ((with_reducible first | apply AO_callE | apply V_callE | apply D_callE); (case hg => exact gT); (case ho => exact rfl); (case ht => exact rfl); (case hp' => first | exact c1); (case htm => exact pT); (case hn => exact nT); (try case hc => exact rfl))
      | ((with_reducible apply AO_nilE); (case hg => exact gT); (case ho => exact rfl); (case ht => simp only [go_sem]; exact rfl); (case hx => exact rfl); (case hn => exact nT); intro bn hnil; (try simp (disch := omega) only [go_sem] at hnil); dsimp only [putT, List.set_cons_succ, List.set_cons_zero])
      | ((fail_if_success ((with_reducible first | apply AO_stepE | apply V_stepE | apply D_stepE); (case hg => exact gT))); (fail_if_success ((with_reducible first | apply AO_skipE | apply V_skipE | apply D_skipE); (case hg => exact gF))); (with_reducible first | apply AO_split | apply V_split | apply D_split); (case hg => exact rfl); (case hd => exact rfl); (case hb => exact rfl); (case e1 => exact sT); (case e2 => exact sT); all_goals (intro hg; first | (simp (disch := omega) only [go_sem] at hg; try omega) | try omega))
    (with_reducible apply retQ_frz); (case h => simp (disch := omega) only [go_sem]; exact rfl); (case hq => exact rfl); (case hz => simp [Fz.int_iff, Fz.bool_iff, Fz.agg_iff, Fz.str_iff, rws_fz_iff, ri_fz_iff, Fz.tuple_iff, enc_fz_iff, enc_mem_iff, Fz.fp_iff, Fz.func_iff]); (case hf => repeat' first | exact .refl _ | (refine .tupleC ?_) | (refine .cons ?_ ?_) | exact .nil | exact .slR (.refl _) | exact .refE trivial (by simp only [go_sem]; exact rfl) (by first | rfl | (simp; done) | (simp [rws, Enc.enc]; done)) (by first | rfl | simp [rws_length]) | exact .refP trivial (by simp only [go_sem]; exact rfl) (by first | rfl | assumption | (simp [rws_length]; omega)) (by omega) (by first | assumption | (simp only [List.drop_zero]; assumption)) | (refine .aggC ?_))
  · have e1 : take l g = (⟨add l.start (work t g), w⟩, t, true) := by rw [take, hw]
    have e2 : fin l g = (add l.start (work t g), true) := by rw [fin, hw]
    have h0 : (rws l.wait)[0]? = some [.int .i64 t.iD, .int .i64 t.width, .int .i64 t.seats, .int .i64 t.since, .int .i64 t.until_] := by rw [hw]; rfl
    have h1 : l.wait.length = w.length + 1 := by rw [hw]; rfl
    have h2 : List.take w.length (List.drop 1 (rws l.wait)) = rws w := by rw [hw, rws_drop, rws_take]; simp
    have h3 : w.length + 1 - 1 = w.length := by omega
    rw [e1]
    rw [e2] at c1
    rw [← hw]
    repeat' first
      | with_reducible first | refine W_seq ?_ | refine W_block ?_ | refine W_skip ?_ | refine N_code ?_ | refine N_blk ?_ | refine W_exit ?_ | refine E_blk ?_ | refine E_code ?_ | refine E_blk_ne (by decide) ?_ | refine W_ret ?_ | refine R_code ?_ | refine R_blk ?_ | refine L_exit ?_ | refine L_ret ?_ | refine F_ret ?_ | refine F_out (by decide) ?_ | refine FW_ret ?_ | refine FW_out (by decide) ?_ | refine R_nil ?_
      | ((with_reducible apply W_condT); (case hb => exact rfl); (case hw => with_reducible rfl))
      | ((with_reducible apply W_condF); (case hb => exact rfl); (case hw => with_reducible rfl))
      | ((with_reducible apply W_condE); (case hb => exact rfl); (case e1 => exact sT); (case e2 => exact sT); all_goals (intro hb; first | (simp (disch := omega) only [go_sem, h0, h1, h2, h3] at hb; done) | (simp (disch := omega) only [go_sem, h0, h1, h2, h3] at hb; try omega) | try omega))
      | (with_reducible refine W_reg fun K hK => ?_)
      | (with_reducible refine W_drwR rfl mixed (by decide +kernel) fun K hK => ?_)
      | (with_reducible refine W_drw mixed (by decide +kernel) fun K hK => ?_)
      | ((with_reducible refine AO_nil (hK _ ?_)); clear hK K)
      | ((with_reducible apply D_admE); (case hop => exact rfl); (case ha => exact rfl); (case hna => exact rfl); (try case hl => exact tT); (case hg => exact gT); (case hy => exact rfl); (case ht => exact pT); (case hn => exact nT); (try case hc => exact rfl))
      | ((with_reducible apply D_adrE); (case ha => exact rfl); (case hna => exact rfl); (try case hl => exact tT); (case hg => exact gT); (case hs => simp (maxSteps := 2000000) (disch := omega) only [go_sem, h0, h1, h2, h3]; exact rfl); (case ht => exact pT); (case hn => exact nT); (try case hc => exact rfl))
      | ((with_reducible first | apply AO_mvE | apply V_mvE | apply D_mvE); (case hop => exact rfl); (case hg => exact gT); (try case hw => exact rfl); (try case hl => exact tT); (case hy => exact rfl); (case ht => exact pT); (case hn => exact nT); (try case hc => exact rfl))
      | ((with_reducible first | apply AO_stepE | apply V_stepE | apply D_stepE); (case hg => exact gT); (try case hw => exact rfl); (try case hl => exact tT); (case hs => simp (maxSteps := 2000000) (disch := omega) only [go_sem, h0, h1, h2, h3]; exact rfl); (case ht => exact pT); (case hn => exact nT); (try case hc => exact rfl))
      | ((with_reducible first | apply AO_skipE | apply V_skipE | apply D_skipE); (case hg => exact gF); (case ht => exact pT); (case hn => exact nT); (try case hc => exact rfl))
      | ((with_reducible first | apply V_end | apply D_end); (case hi => exact rfl); (try case hind => kernel_rfl); (case hn => exact nT); (with_reducible refine hK _ ?_); clear hK K)
      | ((with_reducible first | apply AO_callE | apply V_callE | apply D_callE); (case hg => exact gT); (case ho => exact rfl); (case ht => exact rfl); (case hp' => first | exact c1); (case htm => exact pT); (case hn => exact nT); (try case hc => exact rfl))
      | ((with_reducible apply AO_nilE); (case hg => exact gT); (case ho => exact rfl); (case ht => simp only [go_sem]; exact rfl); (case hx => exact rfl); (case hn => exact nT); intro bn hnil; (try simp (disch := omega) only [go_sem, h0, h1, h2, h3] at hnil); dsimp only [putT, List.set_cons_succ, List.set_cons_zero])
      | ((fail_if_success ((with_reducible first | apply AO_stepE | apply V_stepE | apply D_stepE); (case hg => exact gT))); (fail_if_success ((with_reducible first | apply AO_skipE | apply V_skipE | apply D_skipE); (case hg => exact gF))); (with_reducible first | apply AO_split | apply V_split | apply D_split); (case hg => exact rfl); (case hd => exact rfl); (case hb => exact rfl); (case e1 => exact sT); (case e2 => exact sT); all_goals (intro hg; first | (simp (disch := omega) only [go_sem, h0, h1, h2, h3] at hg; try omega) | try omega))
    (with_reducible apply retQ_frz); (case h => simp (disch := omega) only [go_sem]; exact rfl); (case hq => exact rfl); (case hz => simp [Fz.int_iff, Fz.bool_iff, Fz.agg_iff, Fz.str_iff, rws_fz_iff, ri_fz_iff, Fz.tuple_iff, enc_fz_iff, enc_mem_iff, Fz.fp_iff, Fz.func_iff]); (case hf => repeat' first | exact .refl _ | (refine .tupleC ?_) | (refine .cons ?_ ?_) | exact .nil | exact .slR (.refl _) | exact .refE trivial (by simp only [go_sem]; exact rfl) (by first | rfl | (simp; done) | (simp [rws, Enc.enc]; done)) (by first | rfl | simp [rws_length]) | exact .refP trivial (by simp only [go_sem]; exact rfl) (by first | rfl | assumption | (simp [rws_length]; omega)) (by omega) (by first | assumption | (simp only [List.drop_zero]; assumption)) | (refine .aggC ?_))

end Go.Proofs.Ytdgjelfeclgolaa
