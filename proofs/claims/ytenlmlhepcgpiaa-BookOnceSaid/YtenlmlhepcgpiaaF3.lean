/-
  Books: the reference's begin; move, count, same; walked.
-/
import Derived.Test.YtenlmlhepcgpiaaF2
namespace Go.Proofs.Ytenlmlhepcgpiaa
open Go Go.AM
set_option maxHeartbeats 2000000
set_option linter.unusedSimpArgs false
set_option linter.unusedVariables false

theorem rbegin_ok (b : List TEntry) (x : TEntry) (hl : b.length ≤ 1000) : PCall Try.prog 10 [.sl (rws b) none, .agg (Enc.enc x)] (· = bookV (beginB b x)) := by
  have c1 := rfind_ok b x.iD (by unfold maxLen; omega)
  have e1 := rws_snoc b x
  simp only [enc_TEntry] at e1
  refine PCall_intro (c := Try.f10.body.getD .skip) Try.func10 rfl (by decide +kernel) (by simp [Fz.int_iff, Fz.bool_iff, Fz.agg_iff, Fz.str_iff, rws_fz_iff, ri_fz_iff, enc_mem_iff, Fz.fp_iff, Fz.func_iff]) (W_start ?_)
  simp only [Try.f10, go_sem]
  rcases find_cases b x.iD with ⟨i, z, h1, h2, h3, h4, h5, h6⟩ | ⟨h1, h2, h3⟩
  · rw [h5] at c1
    repeat' first
      | with_reducible first | refine W_seq ?_ | refine W_block ?_ | refine W_skip ?_ | refine N_code ?_ | refine N_blk ?_ | refine W_exit ?_ | refine E_blk ?_ | refine E_code ?_ | refine E_blk_ne (by decide) ?_ | refine W_ret ?_ | refine R_code ?_ | refine R_blk ?_ | refine L_exit ?_ | refine L_ret ?_ | refine F_ret ?_ | refine F_out (by decide) ?_ | refine FW_ret ?_ | refine FW_out (by decide) ?_ | refine R_nil ?_
      | ((with_reducible apply W_condT); (case hb => exact rfl); (case hw => with_reducible rfl))
      | ((with_reducible apply W_condF); (case hb => exact rfl); (case hw => with_reducible rfl))
      | ((with_reducible apply W_condE); (case hb => exact rfl); (case e1 => exact sT); (case e2 => exact sT); all_goals (intro hb; first | (simp (disch := omega) only [go_sem, e1] at hb; done) | (simp (disch := omega) only [go_sem, e1] at hb; try omega) | try omega))
      | (with_reducible refine W_reg fun K hK => ?_)
      | (with_reducible refine W_drwR rfl mixed (by decide +kernel) fun K hK => ?_)
      | (with_reducible refine W_drw mixed (by decide +kernel) fun K hK => ?_)
      | ((with_reducible refine AO_nil (hK _ ?_)); clear hK K)
      | ((with_reducible apply D_admE); (case hop => exact rfl); (case ha => exact rfl); (case hna => exact rfl); (try case hl => exact tT); (case hg => exact gT); (case hy => exact rfl); (case ht => exact pT); (case hn => exact nT); (try case hc => exact rfl))
      | ((with_reducible apply D_adrE); (case ha => exact rfl); (case hna => exact rfl); (try case hl => exact tT); (case hg => exact gT); (case hs => simp (maxSteps := 2000000) (disch := omega) only [go_sem, e1]; exact rfl); (case ht => exact pT); (case hn => exact nT); (try case hc => exact rfl))
      | ((with_reducible first | apply AO_mvE | apply V_mvE | apply D_mvE); (case hop => exact rfl); (case hg => exact gT); (try case hw => exact rfl); (try case hl => exact tT); (case hy => exact rfl); (case ht => exact pT); (case hn => exact nT); (try case hc => exact rfl))
      | ((with_reducible first | apply AO_stepE | apply V_stepE | apply D_stepE); (case hg => exact gT); (try case hw => exact rfl); (try case hl => exact tT); (case hs => simp (maxSteps := 2000000) (disch := omega) only [go_sem, e1]; exact rfl); (case ht => exact pT); (case hn => exact nT); (try case hc => exact rfl))
      | ((with_reducible first | apply AO_skipE | apply V_skipE | apply D_skipE); (case hg => exact gF); (case ht => exact pT); (case hn => exact nT); (try case hc => exact rfl))
      | ((with_reducible first | apply V_end | apply D_end); (case hi => exact rfl); (try case hind => kernel_rfl); (case hn => exact nT); (with_reducible refine hK _ ?_); clear hK K)
      | ((with_reducible first | apply AO_callE | apply V_callE | apply D_callE); (case hg => exact gT); (case ho => exact rfl); (case ht => exact rfl); (case hp' => first | exact c1); (case htm => exact pT); (case hn => exact nT); (try case hc => exact rfl))
      | ((with_reducible apply AO_nilE); (case hg => exact gT); (case ho => exact rfl); (case ht => simp only [go_sem]; exact rfl); (case hx => exact rfl); (case hn => exact nT); intro bn hnil; (try simp (disch := omega) only [go_sem, e1] at hnil); dsimp only [putT, List.set_cons_succ, List.set_cons_zero])
      | ((fail_if_success ((with_reducible first | apply AO_stepE | apply V_stepE | apply D_stepE); (case hg => exact gT))); (fail_if_success ((with_reducible first | apply AO_skipE | apply V_skipE | apply D_skipE); (case hg => exact gF))); (with_reducible first | apply AO_split | apply V_split | apply D_split); (case hg => exact rfl); (case hd => exact rfl); (case hb => exact rfl); (case e1 => exact sT); (case e2 => exact sT); all_goals (intro hg; first | (simp (disch := omega) only [go_sem, e1] at hg; try omega) | try omega))
    all_goals (generalize hspec : beginB b x = rspec; simp (disch := omega) only [beginB, h1, ite_t, ite_f] at hspec; subst hspec; (with_reducible apply retQ_frz); (case h => simp (disch := omega) only [go_sem]; exact rfl); (case hq => exact rfl); (case hz => simp [Fz.int_iff, Fz.bool_iff, Fz.agg_iff, Fz.str_iff, rws_fz_iff, ri_fz_iff, Fz.tuple_iff, enc_fz_iff, enc_mem_iff, Fz.fp_iff, Fz.func_iff]); (case hf => repeat' first | exact .refl _ | (refine .tupleC ?_) | (refine .cons ?_ ?_) | exact .nil | exact .slR (.refl _) | exact .refE trivial (by simp only [go_sem]; exact rfl) (by first | rfl | (simp; done) | (simp [rws, Enc.enc]; done)) (by first | rfl | simp [rws_length]) | (refine .aggC ?_)))
  · rw [h2] at c1
    repeat' first
      | with_reducible first | refine W_seq ?_ | refine W_block ?_ | refine W_skip ?_ | refine N_code ?_ | refine N_blk ?_ | refine W_exit ?_ | refine E_blk ?_ | refine E_code ?_ | refine E_blk_ne (by decide) ?_ | refine W_ret ?_ | refine R_code ?_ | refine R_blk ?_ | refine L_exit ?_ | refine L_ret ?_ | refine F_ret ?_ | refine F_out (by decide) ?_ | refine FW_ret ?_ | refine FW_out (by decide) ?_ | refine R_nil ?_
      | ((with_reducible apply W_condT); (case hb => exact rfl); (case hw => with_reducible rfl))
      | ((with_reducible apply W_condF); (case hb => exact rfl); (case hw => with_reducible rfl))
      | ((with_reducible apply W_condE); (case hb => exact rfl); (case e1 => exact sT); (case e2 => exact sT); all_goals (intro hb; first | (simp (disch := omega) only [go_sem, e1] at hb; done) | (simp (disch := omega) only [go_sem, e1] at hb; try omega) | try omega))
      | (with_reducible refine W_reg fun K hK => ?_)
      | (with_reducible refine W_drwR rfl mixed (by decide +kernel) fun K hK => ?_)
      | (with_reducible refine W_drw mixed (by decide +kernel) fun K hK => ?_)
      | ((with_reducible refine AO_nil (hK _ ?_)); clear hK K)
      | ((with_reducible apply D_admE); (case hop => exact rfl); (case ha => exact rfl); (case hna => exact rfl); (try case hl => exact tT); (case hg => exact gT); (case hy => exact rfl); (case ht => exact pT); (case hn => exact nT); (try case hc => exact rfl))
      | ((with_reducible apply D_adrE); (case ha => exact rfl); (case hna => exact rfl); (try case hl => exact tT); (case hg => exact gT); (case hs => simp (maxSteps := 2000000) (disch := omega) only [go_sem, e1]; exact rfl); (case ht => exact pT); (case hn => exact nT); (try case hc => exact rfl))
      | ((with_reducible first | apply AO_mvE | apply V_mvE | apply D_mvE); (case hop => exact rfl); (case hg => exact gT); (try case hw => exact rfl); (try case hl => exact tT); (case hy => exact rfl); (case ht => exact pT); (case hn => exact nT); (try case hc => exact rfl))
      | ((with_reducible first | apply AO_stepE | apply V_stepE | apply D_stepE); (case hg => exact gT); (try case hw => exact rfl); (try case hl => exact tT); (case hs => simp (maxSteps := 2000000) (disch := omega) only [go_sem, e1]; exact rfl); (case ht => exact pT); (case hn => exact nT); (try case hc => exact rfl))
      | ((with_reducible first | apply AO_skipE | apply V_skipE | apply D_skipE); (case hg => exact gF); (case ht => exact pT); (case hn => exact nT); (try case hc => exact rfl))
      | ((with_reducible first | apply V_end | apply D_end); (case hi => exact rfl); (try case hind => kernel_rfl); (case hn => exact nT); (with_reducible refine hK _ ?_); clear hK K)
      | ((with_reducible first | apply AO_callE | apply V_callE | apply D_callE); (case hg => exact gT); (case ho => exact rfl); (case ht => exact rfl); (case hp' => first | exact c1); (case htm => exact pT); (case hn => exact nT); (try case hc => exact rfl))
      | ((with_reducible apply AO_nilE); (case hg => exact gT); (case ho => exact rfl); (case ht => simp only [go_sem]; exact rfl); (case hx => exact rfl); (case hn => exact nT); intro bn hnil; (try simp (disch := omega) only [go_sem, e1] at hnil); dsimp only [putT, List.set_cons_succ, List.set_cons_zero])
      | ((fail_if_success ((with_reducible first | apply AO_stepE | apply V_stepE | apply D_stepE); (case hg => exact gT))); (fail_if_success ((with_reducible first | apply AO_skipE | apply V_skipE | apply D_skipE); (case hg => exact gF))); (with_reducible first | apply AO_split | apply V_split | apply D_split); (case hg => exact rfl); (case hd => exact rfl); (case hb => exact rfl); (case e1 => exact sT); (case e2 => exact sT); all_goals (intro hg; first | (simp (disch := omega) only [go_sem, e1] at hg; try omega) | try omega))
    all_goals (generalize hspec : beginB b x = rspec; simp (disch := omega) only [beginB, h1, ite_t, ite_f] at hspec; subst hspec; (with_reducible apply retQ_frz); (case h => simp (disch := omega) only [go_sem]; exact rfl); (case hq => exact rfl); (case hz => simp [Fz.int_iff, Fz.bool_iff, Fz.agg_iff, Fz.str_iff, rws_fz_iff, ri_fz_iff, Fz.tuple_iff, enc_fz_iff, enc_mem_iff, Fz.fp_iff, Fz.func_iff]); (case hf => repeat' first | exact .refl _ | (refine .tupleC ?_) | (refine .cons ?_ ?_) | exact .nil | exact .slR (.refl _) | exact .refE trivial (by simp only [go_sem]; exact rfl) (by first | rfl | (simp; done) | (simp [rws, Enc.enc]; done)) (by first | rfl | simp [rws_length]) | (refine .aggC ?_)))

/-- A book in which an entry has moved, or an error. -/
def moveB (b : List TEntry) (id to : Int) : List TEntry × Int :=
  if findI b id < 0 then ([], 6) else if to < 1 ∨ to > 3 ∨ to ≤ (findE b id).1.phase then ([], 9) else (b.set (findI b id).toNat ⟨(findE b id).1.iD, to, (findE b id).1.level⟩, 0)

theorem move_ok (b : List TEntry) (id to : Int) (hl : b.length ≤ 1000) : PCall Try.prog 8 [.sl (rws b) none, .int .i64 id, .int .i64 to] (· = bookV (moveB b id to)) := by
  have c1 := findI_ok b id (by unfold maxLen; omega)
  have c2 := phase_ok to
  have c3 := clone_ok b (by omega)
  refine PCall_intro (c := Try.f8.body.getD .skip) Try.func8 rfl (by decide +kernel) (by simp [Fz.int_iff, Fz.bool_iff, Fz.agg_iff, Fz.str_iff, rws_fz_iff, ri_fz_iff, enc_mem_iff, Fz.fp_iff, Fz.func_iff]) (W_start ?_)
  simp only [Try.f8, go_sem]
  rcases find_cases b id with ⟨i, x, h1, h2, h3, h4, h5, h6⟩ | ⟨h1, h2, h3⟩
  · rw [h1] at c1
    have e1 := rws_set b i ⟨x.iD, to, x.level⟩
    simp only [enc_TEntry] at e1
    repeat' first
      | with_reducible first | refine W_seq ?_ | refine W_block ?_ | refine W_skip ?_ | refine N_code ?_ | refine N_blk ?_ | refine W_exit ?_ | refine E_blk ?_ | refine E_code ?_ | refine E_blk_ne (by decide) ?_ | refine W_ret ?_ | refine R_code ?_ | refine R_blk ?_ | refine L_exit ?_ | refine L_ret ?_ | refine F_ret ?_ | refine F_out (by decide) ?_ | refine FW_ret ?_ | refine FW_out (by decide) ?_ | refine R_nil ?_
      | ((with_reducible apply W_condT); (case hb => exact rfl); (case hw => with_reducible rfl))
      | ((with_reducible apply W_condF); (case hb => exact rfl); (case hw => with_reducible rfl))
      | ((with_reducible apply W_condE); (case hb => exact rfl); (case e1 => exact sT); (case e2 => exact sT); all_goals (intro hb; first | (simp (disch := omega) only [go_sem, rws_get h3, e1] at hb; done) | (simp (disch := omega) only [go_sem, rws_get h3, e1] at hb; try omega) | try omega))
      | (with_reducible refine W_reg fun K hK => ?_)
      | (with_reducible refine W_drwR rfl mixed (by decide +kernel) fun K hK => ?_)
      | (with_reducible refine W_drw mixed (by decide +kernel) fun K hK => ?_)
      | ((with_reducible refine AO_nil (hK _ ?_)); clear hK K)
      | ((with_reducible apply D_admE); (case hop => exact rfl); (case ha => exact rfl); (case hna => exact rfl); (try case hl => exact tT); (case hg => exact gT); (case hy => exact rfl); (case ht => exact pT); (case hn => exact nT); (try case hc => exact rfl))
      | ((with_reducible apply D_adrE); (case ha => exact rfl); (case hna => exact rfl); (try case hl => exact tT); (case hg => exact gT); (case hs => simp (maxSteps := 2000000) (disch := omega) only [go_sem, rws_get h3, e1]; exact rfl); (case ht => exact pT); (case hn => exact nT); (try case hc => exact rfl))
      | ((with_reducible first | apply AO_mvE | apply V_mvE | apply D_mvE); (case hop => exact rfl); (case hg => exact gT); (try case hw => exact rfl); (try case hl => exact tT); (case hy => exact rfl); (case ht => exact pT); (case hn => exact nT); (try case hc => exact rfl))
      | ((with_reducible first | apply AO_stepE | apply V_stepE | apply D_stepE); (case hg => exact gT); (try case hw => exact rfl); (try case hl => exact tT); (case hs => simp (maxSteps := 2000000) (disch := omega) only [go_sem, rws_get h3, e1]; exact rfl); (case ht => exact pT); (case hn => exact nT); (try case hc => exact rfl))
      | ((with_reducible first | apply AO_skipE | apply V_skipE | apply D_skipE); (case hg => exact gF); (case ht => exact pT); (case hn => exact nT); (try case hc => exact rfl))
      | ((with_reducible first | apply V_end | apply D_end); (case hi => exact rfl); (try case hind => kernel_rfl); (case hn => exact nT); (with_reducible refine hK _ ?_); clear hK K)
      | ((with_reducible first | apply AO_callE | apply V_callE | apply D_callE); (case hg => exact gT); (case ho => exact rfl); (case ht => exact rfl); (case hp' => first | exact c1 | exact c2); (case htm => exact pT); (case hn => exact nT); (try case hc => exact rfl))
      | ((with_reducible first | apply AO_newE | apply D_newE); (case hg => exact gT); (case ho => exact rfl); (case ht => exact rfl); (case hc => exact c3); (case hf => exact frT); (try case hid => exact nT); (case hy => first | (simp only [List.map_cons, List.map_nil]; exact rfl) | exact rfl); (case htm => exact pT); (case hn => exact nT); (try case htc => exact rfl))
      | ((with_reducible apply AO_nilE); (case hg => exact gT); (case ho => exact rfl); (case ht => simp only [go_sem]; exact rfl); (case hx => exact rfl); (case hn => exact nT); intro bn hnil; (try simp (disch := omega) only [go_sem, rws_get h3, e1] at hnil); dsimp only [putT, List.set_cons_succ, List.set_cons_zero])
      | ((fail_if_success ((with_reducible first | apply AO_stepE | apply V_stepE | apply D_stepE); (case hg => exact gT))); (fail_if_success ((with_reducible first | apply AO_skipE | apply V_skipE | apply D_skipE); (case hg => exact gF))); (with_reducible first | apply AO_split | apply V_split | apply D_split); (case hg => exact rfl); (case hd => exact rfl); (case hb => exact rfl); (case e1 => exact sT); (case e2 => exact sT); all_goals (intro hg; first | (simp (disch := omega) only [go_sem, rws_get h3, e1] at hg; try omega) | try omega))
    all_goals (generalize hspec : moveB b id to = rspec; simp (disch := omega) only [moveB, h1, h5, Int.toNat_natCast, ite_t, ite_f] at hspec; subst hspec; (with_reducible apply retQ_frz); (case h => simp (disch := omega) only [go_sem]; exact rfl); (case hq => exact rfl); (case hz => simp [Fz.int_iff, Fz.bool_iff, Fz.agg_iff, Fz.str_iff, rws_fz_iff, ri_fz_iff, Fz.tuple_iff, enc_fz_iff, enc_mem_iff, Fz.fp_iff, Fz.func_iff]); (case hf => repeat' first | exact .refl _ | (refine .tupleC ?_) | (refine .cons ?_ ?_) | exact .nil | exact .slR (.refl _) | exact .refE trivial (by simp only [go_sem]; exact rfl) (by first | rfl | (simp; done) | (simp [rws, Enc.enc]; done)) (by first | rfl | simp [rws_length]) | (refine .aggC ?_)))
  · rw [h1] at c1
    repeat' first
      | with_reducible first | refine W_seq ?_ | refine W_block ?_ | refine W_skip ?_ | refine N_code ?_ | refine N_blk ?_ | refine W_exit ?_ | refine E_blk ?_ | refine E_code ?_ | refine E_blk_ne (by decide) ?_ | refine W_ret ?_ | refine R_code ?_ | refine R_blk ?_ | refine L_exit ?_ | refine L_ret ?_ | refine F_ret ?_ | refine F_out (by decide) ?_ | refine FW_ret ?_ | refine FW_out (by decide) ?_ | refine R_nil ?_
      | ((with_reducible apply W_condT); (case hb => exact rfl); (case hw => with_reducible rfl))
      | ((with_reducible apply W_condF); (case hb => exact rfl); (case hw => with_reducible rfl))
      | ((with_reducible apply W_condE); (case hb => exact rfl); (case e1 => exact sT); (case e2 => exact sT); all_goals (intro hb; first | (simp (disch := omega) only [go_sem] at hb; done) | (simp (disch := omega) only [go_sem] at hb; try omega) | try omega))
      | (with_reducible refine W_reg fun K hK => ?_)
      | (with_reducible refine W_drwR rfl mixed (by decide +kernel) fun K hK => ?_)
      | (with_reducible refine W_drw mixed (by decide +kernel) fun K hK => ?_)
      | ((with_reducible refine AO_nil (hK _ ?_)); clear hK K)
      | ((with_reducible apply D_admE); (case hop => exact rfl); (case ha => exact rfl); (case hna => exact rfl); (try case hl => exact tT); (case hg => exact gT); (case hy => exact rfl); (case ht => exact pT); (case hn => exact nT); (try case hc => exact rfl))
      | ((with_reducible apply D_adrE); (case ha => exact rfl); (case hna => exact rfl); (try case hl => exact tT); (case hg => exact gT); (case hs => simp (maxSteps := 2000000) (disch := omega) only [go_sem]; exact rfl); (case ht => exact pT); (case hn => exact nT); (try case hc => exact rfl))
      | ((with_reducible first | apply AO_mvE | apply V_mvE | apply D_mvE); (case hop => exact rfl); (case hg => exact gT); (try case hw => exact rfl); (try case hl => exact tT); (case hy => exact rfl); (case ht => exact pT); (case hn => exact nT); (try case hc => exact rfl))
      | ((with_reducible first | apply AO_stepE | apply V_stepE | apply D_stepE); (case hg => exact gT); (try case hw => exact rfl); (try case hl => exact tT); (case hs => simp (maxSteps := 2000000) (disch := omega) only [go_sem]; exact rfl); (case ht => exact pT); (case hn => exact nT); (try case hc => exact rfl))
      | ((with_reducible first | apply AO_skipE | apply V_skipE | apply D_skipE); (case hg => exact gF); (case ht => exact pT); (case hn => exact nT); (try case hc => exact rfl))
      | ((with_reducible first | apply V_end | apply D_end); (case hi => exact rfl); (try case hind => kernel_rfl); (case hn => exact nT); (with_reducible refine hK _ ?_); clear hK K)
      | ((with_reducible first | apply AO_callE | apply V_callE | apply D_callE); (case hg => exact gT); (case ho => exact rfl); (case ht => exact rfl); (case hp' => first | exact c1 | exact c2); (case htm => exact pT); (case hn => exact nT); (try case hc => exact rfl))
      | ((with_reducible apply AO_nilE); (case hg => exact gT); (case ho => exact rfl); (case ht => simp only [go_sem]; exact rfl); (case hx => exact rfl); (case hn => exact nT); intro bn hnil; (try simp (disch := omega) only [go_sem] at hnil); dsimp only [putT, List.set_cons_succ, List.set_cons_zero])
      | ((fail_if_success ((with_reducible first | apply AO_stepE | apply V_stepE | apply D_stepE); (case hg => exact gT))); (fail_if_success ((with_reducible first | apply AO_skipE | apply V_skipE | apply D_skipE); (case hg => exact gF))); (with_reducible first | apply AO_split | apply V_split | apply D_split); (case hg => exact rfl); (case hd => exact rfl); (case hb => exact rfl); (case e1 => exact sT); (case e2 => exact sT); all_goals (intro hg; first | (simp (disch := omega) only [go_sem] at hg; try omega) | try omega))
    all_goals (generalize hspec : moveB b id to = rspec; simp (disch := omega) only [moveB, h1, ite_t, ite_f] at hspec; subst hspec; (with_reducible apply retQ_frz); (case h => simp (disch := omega) only [go_sem]; exact rfl); (case hq => exact rfl); (case hz => simp [Fz.int_iff, Fz.bool_iff, Fz.agg_iff, Fz.str_iff, rws_fz_iff, ri_fz_iff, Fz.tuple_iff, enc_fz_iff, enc_mem_iff, Fz.fp_iff, Fz.func_iff]); (case hf => repeat' first | exact .refl _ | (refine .tupleC ?_) | (refine .cons ?_ ?_) | exact .nil | exact .slR (.refl _) | exact .refE trivial (by simp only [go_sem]; exact rfl) (by first | rfl | (simp; done) | (simp [rws, Enc.enc]; done)) (by first | rfl | simp [rws_length]) | (refine .aggC ?_)))

theorem same_ok (l : List TEntry) (hl : l.length ≤ maxLen) : PCall Try.prog 11 [.sl (rws l) none, .sl (rws l) none] (· = .bool true) := by
  unfold maxLen at hl
  refine PCall_intro (c := Try.f11.body.getD .skip) Try.func11 rfl (by decide +kernel) (by simp [Fz.int_iff, Fz.bool_iff, Fz.agg_iff, Fz.str_iff, rws_fz_iff, ri_fz_iff, enc_mem_iff, Fz.fp_iff, Fz.func_iff]) (W_start ?_)
  simp only [Try.f11, go_sem]
  repeat' first
    | with_reducible first | refine W_seq ?_ | refine W_block ?_ | refine W_skip ?_ | refine N_code ?_ | refine N_blk ?_ | refine W_exit ?_ | refine E_blk ?_ | refine E_code ?_ | refine E_blk_ne (by decide) ?_ | refine W_ret ?_ | refine R_code ?_ | refine R_blk ?_ | refine L_exit ?_ | refine L_ret ?_ | refine F_ret ?_ | refine F_out (by decide) ?_ | refine FW_ret ?_ | refine FW_out (by decide) ?_ | refine R_nil ?_
    | ((with_reducible apply W_condT); (case hb => exact rfl); (case hw => with_reducible rfl))
    | ((with_reducible apply W_condF); (case hb => exact rfl); (case hw => with_reducible rfl))
    | ((with_reducible apply W_condE); (case hb => exact rfl); (case e1 => exact sT); (case e2 => exact sT); all_goals (intro hb; first | (simp (disch := omega) only [go_sem] at hb; done) | (simp (disch := omega) only [go_sem] at hb; try omega) | try omega))
    | (with_reducible refine W_reg fun K hK => ?_)
    | (with_reducible refine W_drwR rfl mixed (by decide +kernel) fun K hK => ?_)
    | (with_reducible refine W_drw mixed (by decide +kernel) fun K hK => ?_)
    | ((with_reducible refine AO_nil (hK _ ?_)); clear hK K)
    | ((with_reducible apply D_admE); (case hop => exact rfl); (case ha => exact rfl); (case hna => exact rfl); (try case hl => exact tT); (case hg => exact gT); (case hy => exact rfl); (case ht => exact pT); (case hn => exact nT); (try case hc => exact rfl))
    | ((with_reducible apply D_adrE); (case ha => exact rfl); (case hna => exact rfl); (try case hl => exact tT); (case hg => exact gT); (case hs => simp (maxSteps := 2000000) (disch := omega) only [go_sem]; exact rfl); (case ht => exact pT); (case hn => exact nT); (try case hc => exact rfl))
    | ((with_reducible first | apply AO_mvE | apply V_mvE | apply D_mvE); (case hop => exact rfl); (case hg => exact gT); (try case hw => exact rfl); (try case hl => exact tT); (case hy => exact rfl); (case ht => exact pT); (case hn => exact nT); (try case hc => exact rfl))
    | ((with_reducible first | apply AO_stepE | apply V_stepE | apply D_stepE); (case hg => exact gT); (try case hw => exact rfl); (try case hl => exact tT); (case hs => simp (maxSteps := 2000000) (disch := omega) only [go_sem]; exact rfl); (case ht => exact pT); (case hn => exact nT); (try case hc => exact rfl))
    | ((with_reducible first | apply AO_skipE | apply V_skipE | apply D_skipE); (case hg => exact gF); (case ht => exact pT); (case hn => exact nT); (try case hc => exact rfl))
    | ((with_reducible first | apply V_end | apply D_end); (case hi => exact rfl); (try case hind => kernel_rfl); (case hn => exact nT); (with_reducible refine hK _ ?_); clear hK K)
    | ((with_reducible apply AO_nilE); (case hg => exact gT); (case ho => exact rfl); (case ht => simp only [go_sem]; exact rfl); (case hx => exact rfl); (case hn => exact nT); intro bn hnil; (try simp (disch := omega) only [go_sem] at hnil); dsimp only [putT, List.set_cons_succ, List.set_cons_zero])
    | ((fail_if_success ((with_reducible first | apply AO_stepE | apply V_stepE | apply D_stepE); (case hg => exact gT))); (fail_if_success ((with_reducible first | apply AO_skipE | apply V_skipE | apply D_skipE); (case hg => exact gF))); (with_reducible first | apply AO_split | apply V_split | apply D_split); (case hg => exact rfl); (case hd => exact rfl); (case hb => exact rfl); (case e1 => exact sT); (case e2 => exact sT); all_goals (intro hg; first | (simp (disch := omega) only [go_sem] at hg; try omega) | try omega))
  refine W_foldK (fun (i : Nat) => [none, none, none, none, some .junk, some (.int .i64 i), none, none, none, none, none, some .junk, some .junk, some .junk, some .junk, some .junk, some .junk, some .junk, some .junk, some .junk, some .junk, some .junk, some .junk, some .junk, some .junk, some .junk]) (fun i => i ≤ l.length) (fun i => l.length - i) 0 (by omega) (by exact weak_mk wkD wkH wkN wkM (by omega)) ?_
  rintro i hi
  simp only [msk_none, msk_some, msk_nil]
  rcases Nat.lt_or_ge i l.length with h4 | h4
  · obtain ⟨x, hx⟩ := some_of_lt h4
    repeat' first
      | with_reducible first | refine W_seq ?_ | refine W_block ?_ | refine W_skip ?_ | refine N_code ?_ | refine N_blk ?_ | refine W_exit ?_ | refine E_blk ?_ | refine E_code ?_ | refine E_blk_ne (by decide) ?_ | refine W_ret ?_ | refine R_code ?_ | refine R_blk ?_ | refine L_exit ?_ | refine L_ret ?_ | refine F_ret ?_ | refine F_out (by decide) ?_ | refine FW_ret ?_ | refine FW_out (by decide) ?_ | refine R_nil ?_
      | ((with_reducible apply W_condT); (case hb => exact rfl); (case hw => with_reducible rfl))
      | ((with_reducible apply W_condF); (case hb => exact rfl); (case hw => with_reducible rfl))
      | ((with_reducible apply W_condE); (case hb => exact rfl); (case e1 => exact sT); (case e2 => exact sT); all_goals (intro hb; first | (simp (disch := omega) only [go_sem, rws_get hx] at hb; done) | (simp (disch := omega) only [go_sem, rws_get hx] at hb; try omega) | try omega))
      | (with_reducible refine W_reg fun K hK => ?_)
      | (with_reducible refine W_drwR rfl mixed (by decide +kernel) fun K hK => ?_)
      | (with_reducible refine W_drw mixed (by decide +kernel) fun K hK => ?_)
      | ((with_reducible refine AO_nil (hK _ ?_)); clear hK K)
      | ((with_reducible apply D_admE); (case hop => exact rfl); (case ha => exact rfl); (case hna => exact rfl); (try case hl => exact tT); (case hg => exact gT); (case hy => exact rfl); (case ht => exact pT); (case hn => exact nT); (try case hc => exact rfl))
      | ((with_reducible apply D_adrE); (case ha => exact rfl); (case hna => exact rfl); (try case hl => exact tT); (case hg => exact gT); (case hs => simp (maxSteps := 2000000) (disch := omega) only [go_sem, rws_get hx]; exact rfl); (case ht => exact pT); (case hn => exact nT); (try case hc => exact rfl))
      | ((with_reducible first | apply AO_mvE | apply V_mvE | apply D_mvE); (case hop => exact rfl); (case hg => exact gT); (try case hw => exact rfl); (try case hl => exact tT); (case hy => exact rfl); (case ht => exact pT); (case hn => exact nT); (try case hc => exact rfl))
      | ((with_reducible first | apply AO_stepE | apply V_stepE | apply D_stepE); (case hg => exact gT); (try case hw => exact rfl); (try case hl => exact tT); (case hs => simp (maxSteps := 2000000) (disch := omega) only [go_sem, rws_get hx]; exact rfl); (case ht => exact pT); (case hn => exact nT); (try case hc => exact rfl))
      | ((with_reducible first | apply AO_skipE | apply V_skipE | apply D_skipE); (case hg => exact gF); (case ht => exact pT); (case hn => exact nT); (try case hc => exact rfl))
      | ((with_reducible first | apply V_end | apply D_end); (case hi => exact rfl); (try case hind => kernel_rfl); (case hn => exact nT); (with_reducible refine hK _ ?_); clear hK K)
      | ((with_reducible apply AO_nilE); (case hg => exact gT); (case ho => exact rfl); (case ht => simp only [go_sem]; exact rfl); (case hx => exact rfl); (case hn => exact nT); intro bn hnil; (try simp (disch := omega) only [go_sem, rws_get hx] at hnil); dsimp only [putT, List.set_cons_succ, List.set_cons_zero])
      | ((fail_if_success ((with_reducible first | apply AO_stepE | apply V_stepE | apply D_stepE); (case hg => exact gT))); (fail_if_success ((with_reducible first | apply AO_skipE | apply V_skipE | apply D_skipE); (case hg => exact gF))); (with_reducible first | apply AO_split | apply V_split | apply D_split); (case hg => exact rfl); (case hd => exact rfl); (case hb => exact rfl); (case e1 => exact sT); (case e2 => exact sT); all_goals (intro hg; first | (simp (disch := omega) only [go_sem, rws_get hx] at hg; try omega) | try omega))
    exact L_next ⟨i + 1, by omega, by omega, (by exact weak_mk wkD wkH wkN wkM (by omega))⟩
  · repeat' first
      | with_reducible first | refine W_seq ?_ | refine W_block ?_ | refine W_skip ?_ | refine N_code ?_ | refine N_blk ?_ | refine W_exit ?_ | refine E_blk ?_ | refine E_code ?_ | refine E_blk_ne (by decide) ?_ | refine W_ret ?_ | refine R_code ?_ | refine R_blk ?_ | refine L_exit ?_ | refine L_ret ?_ | refine F_ret ?_ | refine F_out (by decide) ?_ | refine FW_ret ?_ | refine FW_out (by decide) ?_ | refine R_nil ?_
      | ((with_reducible apply W_condT); (case hb => exact rfl); (case hw => with_reducible rfl))
      | ((with_reducible apply W_condF); (case hb => exact rfl); (case hw => with_reducible rfl))
      | ((with_reducible apply W_condE); (case hb => exact rfl); (case e1 => exact sT); (case e2 => exact sT); all_goals (intro hb; first | (simp (disch := omega) only [go_sem] at hb; done) | (simp (disch := omega) only [go_sem] at hb; try omega) | try omega))
      | (with_reducible refine W_reg fun K hK => ?_)
      | (with_reducible refine W_drwR rfl mixed (by decide +kernel) fun K hK => ?_)
      | (with_reducible refine W_drw mixed (by decide +kernel) fun K hK => ?_)
      | ((with_reducible refine AO_nil (hK _ ?_)); clear hK K)
      | ((with_reducible apply D_admE); (case hop => exact rfl); (case ha => exact rfl); (case hna => exact rfl); (try case hl => exact tT); (case hg => exact gT); (case hy => exact rfl); (case ht => exact pT); (case hn => exact nT); (try case hc => exact rfl))
      | ((with_reducible apply D_adrE); (case ha => exact rfl); (case hna => exact rfl); (try case hl => exact tT); (case hg => exact gT); (case hs => simp (maxSteps := 2000000) (disch := omega) only [go_sem]; exact rfl); (case ht => exact pT); (case hn => exact nT); (try case hc => exact rfl))
      | ((with_reducible first | apply AO_mvE | apply V_mvE | apply D_mvE); (case hop => exact rfl); (case hg => exact gT); (try case hw => exact rfl); (try case hl => exact tT); (case hy => exact rfl); (case ht => exact pT); (case hn => exact nT); (try case hc => exact rfl))
      | ((with_reducible first | apply AO_stepE | apply V_stepE | apply D_stepE); (case hg => exact gT); (try case hw => exact rfl); (try case hl => exact tT); (case hs => simp (maxSteps := 2000000) (disch := omega) only [go_sem]; exact rfl); (case ht => exact pT); (case hn => exact nT); (try case hc => exact rfl))
      | ((with_reducible first | apply AO_skipE | apply V_skipE | apply D_skipE); (case hg => exact gF); (case ht => exact pT); (case hn => exact nT); (try case hc => exact rfl))
      | ((with_reducible first | apply V_end | apply D_end); (case hi => exact rfl); (try case hind => kernel_rfl); (case hn => exact nT); (with_reducible refine hK _ ?_); clear hK K)
      | ((with_reducible apply AO_nilE); (case hg => exact gT); (case ho => exact rfl); (case ht => simp only [go_sem]; exact rfl); (case hx => exact rfl); (case hn => exact nT); intro bn hnil; (try simp (disch := omega) only [go_sem] at hnil); dsimp only [putT, List.set_cons_succ, List.set_cons_zero])
      | ((fail_if_success ((with_reducible first | apply AO_stepE | apply V_stepE | apply D_stepE); (case hg => exact gT))); (fail_if_success ((with_reducible first | apply AO_skipE | apply V_skipE | apply D_skipE); (case hg => exact gF))); (with_reducible first | apply AO_split | apply V_split | apply D_split); (case hg => exact rfl); (case hd => exact rfl); (case hb => exact rfl); (case e1 => exact sT); (case e2 => exact sT); all_goals (intro hg; first | (simp (disch := omega) only [go_sem] at hg; try omega) | try omega))
    (with_reducible apply retQ_frz); (case h => simp (disch := omega) only [go_sem]; exact rfl); (case hq => exact rfl); (case hz => simp [Fz.int_iff, Fz.bool_iff, Fz.agg_iff, Fz.str_iff, rws_fz_iff, ri_fz_iff, Fz.tuple_iff, enc_fz_iff, enc_mem_iff, Fz.fp_iff, Fz.func_iff]); (case hf => repeat' first | exact .refl _ | (refine .tupleC ?_) | (refine .cons ?_ ?_) | exact .nil | exact .slR (.refl _) | exact .refE trivial (by simp only [go_sem]; exact rfl) (by first | rfl | (simp; done) | (simp [rws, Enc.enc]; done)) (by first | rfl | simp [rws_length]) | (refine .aggC ?_))

theorem rmove_ok (b : List TEntry) (id to : Int) (hl : b.length ≤ 1000) : PCall Try.prog 12 [.sl (rws b) none, .int .i64 id, .int .i64 to] (· = bookV (moveB b id to)) := by
  have c1 := rfind_ok b id (by unfold maxLen; omega)
  refine PCall_intro (c := Try.f12.body.getD .skip) Try.func12 rfl (by decide +kernel) (by simp [Fz.int_iff, Fz.bool_iff, Fz.agg_iff, Fz.str_iff, rws_fz_iff, ri_fz_iff, enc_mem_iff, Fz.fp_iff, Fz.func_iff]) (W_start ?_)
  simp only [Try.f12, go_sem]
  rcases find_cases b id with ⟨k, x, h1, h2, h3, h4, h5, h6⟩ | ⟨h1, h2, h3⟩
  · rw [h5] at c1
    repeat' first
      | with_reducible first | refine W_seq ?_ | refine W_block ?_ | refine W_skip ?_ | refine N_code ?_ | refine N_blk ?_ | refine W_exit ?_ | refine E_blk ?_ | refine E_code ?_ | refine E_blk_ne (by decide) ?_ | refine W_ret ?_ | refine R_code ?_ | refine R_blk ?_ | refine L_exit ?_ | refine L_ret ?_ | refine F_ret ?_ | refine F_out (by decide) ?_ | refine FW_ret ?_ | refine FW_out (by decide) ?_ | refine R_nil ?_
      | ((with_reducible apply W_condT); (case hb => exact rfl); (case hw => with_reducible rfl))
      | ((with_reducible apply W_condF); (case hb => exact rfl); (case hw => with_reducible rfl))
      | ((with_reducible apply W_condE); (case hb => exact rfl); (case e1 => exact sT); (case e2 => exact sT); all_goals (intro hb; first | (simp (disch := omega) only [go_sem] at hb; done) | (simp (disch := omega) only [go_sem] at hb; try omega) | try omega))
      | (with_reducible refine W_reg fun K hK => ?_)
      | (with_reducible refine W_drwR rfl mixed (by decide +kernel) fun K hK => ?_)
      | (with_reducible refine W_drw mixed (by decide +kernel) fun K hK => ?_)
      | ((with_reducible refine AO_nil (hK _ ?_)); clear hK K)
      | ((with_reducible apply D_admE); (case hop => exact rfl); (case ha => exact rfl); (case hna => exact rfl); (try case hl => exact tT); (case hg => exact gT); (case hy => exact rfl); (case ht => exact pT); (case hn => exact nT); (try case hc => exact rfl))
      | ((with_reducible apply D_adrE); (case ha => exact rfl); (case hna => exact rfl); (try case hl => exact tT); (case hg => exact gT); (case hs => simp (maxSteps := 2000000) (disch := omega) only [go_sem]; exact rfl); (case ht => exact pT); (case hn => exact nT); (try case hc => exact rfl))
      | ((with_reducible first | apply AO_mvE | apply V_mvE | apply D_mvE); (case hop => exact rfl); (case hg => exact gT); (try case hw => exact rfl); (try case hl => exact tT); (case hy => exact rfl); (case ht => exact pT); (case hn => exact nT); (try case hc => exact rfl))
      | ((with_reducible first | apply AO_stepE | apply V_stepE | apply D_stepE); (case hg => exact gT); (try case hw => exact rfl); (try case hl => exact tT); (case hs => simp (maxSteps := 2000000) (disch := omega) only [go_sem]; exact rfl); (case ht => exact pT); (case hn => exact nT); (try case hc => exact rfl))
      | ((with_reducible first | apply AO_skipE | apply V_skipE | apply D_skipE); (case hg => exact gF); (case ht => exact pT); (case hn => exact nT); (try case hc => exact rfl))
      | ((with_reducible first | apply V_end | apply D_end); (case hi => exact rfl); (try case hind => kernel_rfl); (case hn => exact nT); (with_reducible refine hK _ ?_); clear hK K)
      | ((with_reducible first | apply AO_callE | apply V_callE | apply D_callE); (case hg => exact gT); (case ho => exact rfl); (case ht => exact rfl); (case hp' => first | exact c1); (case htm => exact pT); (case hn => exact nT); (try case hc => exact rfl))
      | ((with_reducible apply AO_nilE); (case hg => exact gT); (case ho => exact rfl); (case ht => simp only [go_sem]; exact rfl); (case hx => exact rfl); (case hn => exact nT); intro bn hnil; (try simp (disch := omega) only [go_sem] at hnil); dsimp only [putT, List.set_cons_succ, List.set_cons_zero])
      | ((fail_if_success ((with_reducible first | apply AO_stepE | apply V_stepE | apply D_stepE); (case hg => exact gT))); (fail_if_success ((with_reducible first | apply AO_skipE | apply V_skipE | apply D_skipE); (case hg => exact gF))); (with_reducible first | apply AO_split | apply V_split | apply D_split); (case hg => exact rfl); (case hd => exact rfl); (case hb => exact rfl); (case e1 => exact sT); (case e2 => exact sT); all_goals (intro hg; first | (simp (disch := omega) only [go_sem] at hg; try omega) | try omega))
    all_goals try (generalize hspec : moveB b id to = rspec; simp (disch := omega) only [moveB, h1, h5, ite_t, ite_f] at hspec; subst hspec; (with_reducible apply retQ_frz); (case h => simp (disch := omega) only [go_sem]; exact rfl); (case hq => exact rfl); (case hz => simp [Fz.int_iff, Fz.bool_iff, Fz.agg_iff, Fz.str_iff, rws_fz_iff, ri_fz_iff, Fz.tuple_iff, enc_fz_iff, enc_mem_iff, Fz.fp_iff, Fz.func_iff]); (case hf => repeat' first | exact .refl _ | (refine .tupleC ?_) | (refine .cons ?_ ?_) | exact .nil | exact .slR (.refl _) | exact .refE trivial (by simp only [go_sem]; exact rfl) (by first | rfl | (simp; done) | (simp [rws, Enc.enc]; done)) (by first | rfl | simp [rws_length]) | (refine .aggC ?_)))
    have e0 : moveB b id to = (b.set k ⟨x.iD, to, x.level⟩, 0) := by simp (disch := omega) only [moveB, h1, h5, ite_t, ite_f, Int.toNat_natCast]
    rw [e0]
    obtain ⟨c, hc⟩ : ∃ c, c = b.set k ⟨x.iD, to, x.level⟩ := ⟨_, rfl⟩
    have hcl : c.length = b.length := by rw [hc, List.length_set]
    rw [← hc]
    (apply W_unbornAt 10 3; (case ht => exact rfl); (case e => exact sT); (case hn => exact nT))
    refine W_foldA (fun ob (a : Nat × Bool) => [none, none, none, none, none, none, none, none, none, none, some (.ref ob a.1 0 a.1 false a.1), some (.bool a.2), some (.int .i64 a.1), some .junk, none, none, none, none, none, none, none, none, none, none, none, none, none, none, none, none, none, none, none, none, some .junk, some .junk, some .junk, some .junk, some .junk, some .junk, some .junk, some .junk, some .junk, some .junk, some .junk, some .junk, some .junk, some .junk, some .junk, some .junk, some .junk, some .junk, some .junk, some .junk, some .junk, some .junk, some .junk, some .junk]) (fun a => rws (c.take a.1)) (fun a => a.1 ≤ b.length ∧ a.2 = decide (k < a.1)) (fun a => b.length - a.1) (0, false) ⟨by simp, by simp⟩ (by exact weak_mk wkD wkH wkN wkM (by omega)) ?_
    rintro ⟨i, d⟩ ⟨hi, hd⟩
    simp only [] at hi hd
    simp only [msk_none, msk_some, msk_nil]
    have e4 : (c.take i).length = i := by simp; omega
    rcases Nat.lt_or_ge i b.length with g4 | g4
    · obtain ⟨y, hy⟩ := some_of_lt g4
      rcases Nat.lt_trichotomy i k with g | g | g
      · obtain rfl : d = false := by rw [hd]; exact decide_eq_false (by omega)
        have g1 : ¬ y.iD = id := by have := h6 i y g hy; simpa using this
        have g2 : c[i]? = some y := by rw [hc, List.getElem?_set_ne (by omega)]; exact hy
        have e3 := rws_snocT g2
        simp only [enc_TEntry] at e3
        repeat' first
          | with_reducible first | refine W_seq ?_ | refine W_block ?_ | refine W_skip ?_ | refine N_code ?_ | refine N_blk ?_ | refine W_exit ?_ | refine E_blk ?_ | refine E_code ?_ | refine E_blk_ne (by decide) ?_ | refine W_ret ?_ | refine R_code ?_ | refine R_blk ?_ | refine L_exit ?_ | refine L_ret ?_ | refine F_ret ?_ | refine F_out (by decide) ?_ | refine FW_ret ?_ | refine FW_out (by decide) ?_ | refine R_nil ?_
          | ((with_reducible apply W_condT); (case hb => exact rfl); (case hw => with_reducible rfl))
          | ((with_reducible apply W_condF); (case hb => exact rfl); (case hw => with_reducible rfl))
          | ((with_reducible apply W_condE); (case hb => exact rfl); (case e1 => exact sT); (case e2 => exact sT); all_goals (intro hb; first | (simp (disch := omega) only [go_sem, rws_get hy, e3, e4] at hb; done) | (simp (disch := omega) only [go_sem, rws_get hy, e3, e4] at hb; try omega) | try omega))
          | (with_reducible refine W_reg fun K hK => ?_)
          | (with_reducible refine W_drwR rfl mixed (by decide +kernel) fun K hK => ?_)
          | (with_reducible refine W_drw mixed (by decide +kernel) fun K hK => ?_)
          | ((with_reducible refine AO_nil (hK _ ?_)); clear hK K)
          | ((with_reducible apply D_admE); (case hop => exact rfl); (case ha => exact rfl); (case hna => exact rfl); (try case hl => exact tT); (case hg => exact gT); (case hy => exact rfl); (case ht => exact pT); (case hn => exact nT); (try case hc => exact rfl))
          | ((with_reducible apply D_adrE); (case ha => exact rfl); (case hna => exact rfl); (try case hl => exact tT); (case hg => exact gT); (case hs => simp (maxSteps := 2000000) (disch := omega) only [go_sem, rws_get hy, e3, e4]; exact rfl); (case ht => exact pT); (case hn => exact nT); (try case hc => exact rfl))
          | ((with_reducible first | apply AO_mvE | apply V_mvE | apply D_mvE); (case hop => exact rfl); (case hg => exact gT); (try case hw => exact rfl); (try case hl => exact tT); (case hy => exact rfl); (case ht => exact pT); (case hn => exact nT); (try case hc => exact rfl))
          | ((with_reducible first | apply AO_stepE | apply V_stepE | apply D_stepE); (case hg => exact gT); (try case hw => exact rfl); (try case hl => exact tT); (case hs => simp (maxSteps := 2000000) (disch := omega) only [go_sem, rws_get hy, e3, e4]; exact rfl); (case ht => exact pT); (case hn => exact nT); (try case hc => exact rfl))
          | ((with_reducible first | apply AO_skipE | apply V_skipE | apply D_skipE); (case hg => exact gF); (case ht => exact pT); (case hn => exact nT); (try case hc => exact rfl))
          | ((with_reducible first | apply V_end | apply D_end); (case hi => exact rfl); (try case hind => kernel_rfl); (case hn => exact nT); (with_reducible refine hK _ ?_); clear hK K)
          | ((with_reducible apply AO_nilE); (case hg => exact gT); (case ho => exact rfl); (case ht => simp only [go_sem]; exact rfl); (case hx => exact rfl); (case hn => exact nT); intro bn hnil; (try simp (disch := omega) only [go_sem, rws_get hy, e3, e4] at hnil); dsimp only [putT, List.set_cons_succ, List.set_cons_zero])
          | ((fail_if_success ((with_reducible first | apply AO_stepE | apply V_stepE | apply D_stepE); (case hg => exact gT))); (fail_if_success ((with_reducible first | apply AO_skipE | apply V_skipE | apply D_skipE); (case hg => exact gF))); (with_reducible first | apply AO_split | apply V_split | apply D_split); (case hg => exact rfl); (case hd => exact rfl); (case hb => exact rfl); (case e1 => exact sT); (case e2 => exact sT); all_goals (intro hg; first | (simp (disch := omega) only [go_sem, rws_get hy, e3, e4] at hg; try omega) | try omega))
        exact L_next ⟨(i + 1, false), by simp; omega, ⟨by simp; omega, by simp; omega⟩, (by exact weak_mk wkD wkH wkN wkM (by omega))⟩
      · subst g
        obtain rfl : d = false := by rw [hd]; exact decide_eq_false (by omega)
        obtain rfl : y = x := by rw [h3] at hy; injection hy with hy; exact hy.symm
        have g2 : c[i]? = some ⟨y.iD, to, y.level⟩ := by rw [hc, List.getElem?_set_self (by omega)]
        have e3 := rws_snocT g2
        simp only [enc_TEntry] at e3
        repeat' first
          | with_reducible first | refine W_seq ?_ | refine W_block ?_ | refine W_skip ?_ | refine N_code ?_ | refine N_blk ?_ | refine W_exit ?_ | refine E_blk ?_ | refine E_code ?_ | refine E_blk_ne (by decide) ?_ | refine W_ret ?_ | refine R_code ?_ | refine R_blk ?_ | refine L_exit ?_ | refine L_ret ?_ | refine F_ret ?_ | refine F_out (by decide) ?_ | refine FW_ret ?_ | refine FW_out (by decide) ?_ | refine R_nil ?_
          | ((with_reducible apply W_condT); (case hb => exact rfl); (case hw => with_reducible rfl))
          | ((with_reducible apply W_condF); (case hb => exact rfl); (case hw => with_reducible rfl))
          | ((with_reducible apply W_condE); (case hb => exact rfl); (case e1 => exact sT); (case e2 => exact sT); all_goals (intro hb; first | (simp (disch := omega) only [go_sem, rws_get hy, e3, e4] at hb; done) | (simp (disch := omega) only [go_sem, rws_get hy, e3, e4] at hb; try omega) | try omega))
          | (with_reducible refine W_reg fun K hK => ?_)
          | (with_reducible refine W_drwR rfl mixed (by decide +kernel) fun K hK => ?_)
          | (with_reducible refine W_drw mixed (by decide +kernel) fun K hK => ?_)
          | ((with_reducible refine AO_nil (hK _ ?_)); clear hK K)
          | ((with_reducible apply D_admE); (case hop => exact rfl); (case ha => exact rfl); (case hna => exact rfl); (try case hl => exact tT); (case hg => exact gT); (case hy => exact rfl); (case ht => exact pT); (case hn => exact nT); (try case hc => exact rfl))
          | ((with_reducible apply D_adrE); (case ha => exact rfl); (case hna => exact rfl); (try case hl => exact tT); (case hg => exact gT); (case hs => simp (maxSteps := 2000000) (disch := omega) only [go_sem, rws_get hy, e3, e4]; exact rfl); (case ht => exact pT); (case hn => exact nT); (try case hc => exact rfl))
          | ((with_reducible first | apply AO_mvE | apply V_mvE | apply D_mvE); (case hop => exact rfl); (case hg => exact gT); (try case hw => exact rfl); (try case hl => exact tT); (case hy => exact rfl); (case ht => exact pT); (case hn => exact nT); (try case hc => exact rfl))
          | ((with_reducible first | apply AO_stepE | apply V_stepE | apply D_stepE); (case hg => exact gT); (try case hw => exact rfl); (try case hl => exact tT); (case hs => simp (maxSteps := 2000000) (disch := omega) only [go_sem, rws_get hy, e3, e4]; exact rfl); (case ht => exact pT); (case hn => exact nT); (try case hc => exact rfl))
          | ((with_reducible first | apply AO_skipE | apply V_skipE | apply D_skipE); (case hg => exact gF); (case ht => exact pT); (case hn => exact nT); (try case hc => exact rfl))
          | ((with_reducible first | apply V_end | apply D_end); (case hi => exact rfl); (try case hind => kernel_rfl); (case hn => exact nT); (with_reducible refine hK _ ?_); clear hK K)
          | ((with_reducible apply AO_nilE); (case hg => exact gT); (case ho => exact rfl); (case ht => simp only [go_sem]; exact rfl); (case hx => exact rfl); (case hn => exact nT); intro bn hnil; (try simp (disch := omega) only [go_sem, rws_get hy, e3, e4] at hnil); dsimp only [putT, List.set_cons_succ, List.set_cons_zero])
          | ((fail_if_success ((with_reducible first | apply AO_stepE | apply V_stepE | apply D_stepE); (case hg => exact gT))); (fail_if_success ((with_reducible first | apply AO_skipE | apply V_skipE | apply D_skipE); (case hg => exact gF))); (with_reducible first | apply AO_split | apply V_split | apply D_split); (case hg => exact rfl); (case hd => exact rfl); (case hb => exact rfl); (case e1 => exact sT); (case e2 => exact sT); all_goals (intro hg; first | (simp (disch := omega) only [go_sem, rws_get hy, e3, e4] at hg; try omega) | try omega))
        exact L_next ⟨(i + 1, true), by simp; omega, ⟨by simp; omega, by simp⟩, (by exact weak_mk wkD wkH wkN wkM (by omega))⟩
      · obtain rfl : d = true := by rw [hd]; exact decide_eq_true (by omega)
        have g2 : c[i]? = some y := by rw [hc, List.getElem?_set_ne (by omega)]; exact hy
        have e3 := rws_snocT g2
        simp only [enc_TEntry] at e3
        repeat' first
          | with_reducible first | refine W_seq ?_ | refine W_block ?_ | refine W_skip ?_ | refine N_code ?_ | refine N_blk ?_ | refine W_exit ?_ | refine E_blk ?_ | refine E_code ?_ | refine E_blk_ne (by decide) ?_ | refine W_ret ?_ | refine R_code ?_ | refine R_blk ?_ | refine L_exit ?_ | refine L_ret ?_ | refine F_ret ?_ | refine F_out (by decide) ?_ | refine FW_ret ?_ | refine FW_out (by decide) ?_ | refine R_nil ?_
          | ((with_reducible apply W_condT); (case hb => exact rfl); (case hw => with_reducible rfl))
          | ((with_reducible apply W_condF); (case hb => exact rfl); (case hw => with_reducible rfl))
          | ((with_reducible apply W_condE); (case hb => exact rfl); (case e1 => exact sT); (case e2 => exact sT); all_goals (intro hb; first | (simp (disch := omega) only [go_sem, rws_get hy, e3, e4] at hb; done) | (simp (disch := omega) only [go_sem, rws_get hy, e3, e4] at hb; try omega) | try omega))
          | (with_reducible refine W_reg fun K hK => ?_)
          | (with_reducible refine W_drwR rfl mixed (by decide +kernel) fun K hK => ?_)
          | (with_reducible refine W_drw mixed (by decide +kernel) fun K hK => ?_)
          | ((with_reducible refine AO_nil (hK _ ?_)); clear hK K)
          | ((with_reducible apply D_admE); (case hop => exact rfl); (case ha => exact rfl); (case hna => exact rfl); (try case hl => exact tT); (case hg => exact gT); (case hy => exact rfl); (case ht => exact pT); (case hn => exact nT); (try case hc => exact rfl))
          | ((with_reducible apply D_adrE); (case ha => exact rfl); (case hna => exact rfl); (try case hl => exact tT); (case hg => exact gT); (case hs => simp (maxSteps := 2000000) (disch := omega) only [go_sem, rws_get hy, e3, e4]; exact rfl); (case ht => exact pT); (case hn => exact nT); (try case hc => exact rfl))
          | ((with_reducible first | apply AO_mvE | apply V_mvE | apply D_mvE); (case hop => exact rfl); (case hg => exact gT); (try case hw => exact rfl); (try case hl => exact tT); (case hy => exact rfl); (case ht => exact pT); (case hn => exact nT); (try case hc => exact rfl))
          | ((with_reducible first | apply AO_stepE | apply V_stepE | apply D_stepE); (case hg => exact gT); (try case hw => exact rfl); (try case hl => exact tT); (case hs => simp (maxSteps := 2000000) (disch := omega) only [go_sem, rws_get hy, e3, e4]; exact rfl); (case ht => exact pT); (case hn => exact nT); (try case hc => exact rfl))
          | ((with_reducible first | apply AO_skipE | apply V_skipE | apply D_skipE); (case hg => exact gF); (case ht => exact pT); (case hn => exact nT); (try case hc => exact rfl))
          | ((with_reducible first | apply V_end | apply D_end); (case hi => exact rfl); (try case hind => kernel_rfl); (case hn => exact nT); (with_reducible refine hK _ ?_); clear hK K)
          | ((with_reducible apply AO_nilE); (case hg => exact gT); (case ho => exact rfl); (case ht => simp only [go_sem]; exact rfl); (case hx => exact rfl); (case hn => exact nT); intro bn hnil; (try simp (disch := omega) only [go_sem, rws_get hy, e3, e4] at hnil); dsimp only [putT, List.set_cons_succ, List.set_cons_zero])
          | ((fail_if_success ((with_reducible first | apply AO_stepE | apply V_stepE | apply D_stepE); (case hg => exact gT))); (fail_if_success ((with_reducible first | apply AO_skipE | apply V_skipE | apply D_skipE); (case hg => exact gF))); (with_reducible first | apply AO_split | apply V_split | apply D_split); (case hg => exact rfl); (case hd => exact rfl); (case hb => exact rfl); (case e1 => exact sT); (case e2 => exact sT); all_goals (intro hg; first | (simp (disch := omega) only [go_sem, rws_get hy, e3, e4] at hg; try omega) | try omega))
        all_goals exact L_next ⟨(i + 1, true), by simp; omega, ⟨by simp; omega, by simp; omega⟩, (by exact weak_mk wkD wkH wkN wkM (by omega))⟩
    · obtain rfl : i = b.length := by omega
      have e5 : c.take b.length = c := by rw [← hcl, List.take_length]
      repeat' first
        | with_reducible first | refine W_seq ?_ | refine W_block ?_ | refine W_skip ?_ | refine N_code ?_ | refine N_blk ?_ | refine W_exit ?_ | refine E_blk ?_ | refine E_code ?_ | refine E_blk_ne (by decide) ?_ | refine W_ret ?_ | refine R_code ?_ | refine R_blk ?_ | refine L_exit ?_ | refine L_ret ?_ | refine F_ret ?_ | refine F_out (by decide) ?_ | refine FW_ret ?_ | refine FW_out (by decide) ?_ | refine R_nil ?_
        | ((with_reducible apply W_condT); (case hb => exact rfl); (case hw => with_reducible rfl))
        | ((with_reducible apply W_condF); (case hb => exact rfl); (case hw => with_reducible rfl))
        | ((with_reducible apply W_condE); (case hb => exact rfl); (case e1 => exact sT); (case e2 => exact sT); all_goals (intro hb; first | (simp (disch := omega) only [go_sem] at hb; done) | (simp (disch := omega) only [go_sem] at hb; try omega) | try omega))
        | (with_reducible refine W_reg fun K hK => ?_)
        | (with_reducible refine W_drwR rfl mixed (by decide +kernel) fun K hK => ?_)
        | (with_reducible refine W_drw mixed (by decide +kernel) fun K hK => ?_)
        | ((with_reducible refine AO_nil (hK _ ?_)); clear hK K)
        | ((with_reducible apply D_admE); (case hop => exact rfl); (case ha => exact rfl); (case hna => exact rfl); (try case hl => exact tT); (case hg => exact gT); (case hy => exact rfl); (case ht => exact pT); (case hn => exact nT); (try case hc => exact rfl))
        | ((with_reducible apply D_adrE); (case ha => exact rfl); (case hna => exact rfl); (try case hl => exact tT); (case hg => exact gT); (case hs => simp (maxSteps := 2000000) (disch := omega) only [go_sem]; exact rfl); (case ht => exact pT); (case hn => exact nT); (try case hc => exact rfl))
        | ((with_reducible first | apply AO_mvE | apply V_mvE | apply D_mvE); (case hop => exact rfl); (case hg => exact gT); (try case hw => exact rfl); (try case hl => exact tT); (case hy => exact rfl); (case ht => exact pT); (case hn => exact nT); (try case hc => exact rfl))
        | ((with_reducible first | apply AO_stepE | apply V_stepE | apply D_stepE); (case hg => exact gT); (try case hw => exact rfl); (try case hl => exact tT); (case hs => simp (maxSteps := 2000000) (disch := omega) only [go_sem]; exact rfl); (case ht => exact pT); (case hn => exact nT); (try case hc => exact rfl))
        | ((with_reducible first | apply AO_skipE | apply V_skipE | apply D_skipE); (case hg => exact gF); (case ht => exact pT); (case hn => exact nT); (try case hc => exact rfl))
        | ((with_reducible first | apply V_end | apply D_end); (case hi => exact rfl); (try case hind => kernel_rfl); (case hn => exact nT); (with_reducible refine hK _ ?_); clear hK K)
        | ((with_reducible apply AO_nilE); (case hg => exact gT); (case ho => exact rfl); (case ht => simp only [go_sem]; exact rfl); (case hx => exact rfl); (case hn => exact nT); intro bn hnil; (try simp (disch := omega) only [go_sem] at hnil); dsimp only [putT, List.set_cons_succ, List.set_cons_zero])
        | ((fail_if_success ((with_reducible first | apply AO_stepE | apply V_stepE | apply D_stepE); (case hg => exact gT))); (fail_if_success ((with_reducible first | apply AO_skipE | apply V_skipE | apply D_skipE); (case hg => exact gF))); (with_reducible first | apply AO_split | apply V_split | apply D_split); (case hg => exact rfl); (case hd => exact rfl); (case hb => exact rfl); (case e1 => exact sT); (case e2 => exact sT); all_goals (intro hg; first | (simp (disch := omega) only [go_sem] at hg; try omega) | try omega))
      rw [← hcl] at *
      simp only [e5, List.take_length]
      (with_reducible apply retQ_frz); (case h => simp (disch := omega) only [go_sem]; exact rfl); (case hq => exact rfl); (case hz => simp [Fz.int_iff, Fz.bool_iff, Fz.agg_iff, Fz.str_iff, rws_fz_iff, ri_fz_iff, Fz.tuple_iff, enc_fz_iff, enc_mem_iff, Fz.fp_iff, Fz.func_iff]); (case hf => repeat' first | exact .refl _ | (refine .tupleC ?_) | (refine .cons ?_ ?_) | exact .nil | exact .slR (.refl _) | exact .refE trivial (by simp only [go_sem]; exact rfl) (by first | rfl | (simp; done) | (simp [rws, Enc.enc]; done)) (by first | rfl | simp [rws_length]) | (refine .aggC ?_))
  · rw [h2] at c1
    repeat' first
      | with_reducible first | refine W_seq ?_ | refine W_block ?_ | refine W_skip ?_ | refine N_code ?_ | refine N_blk ?_ | refine W_exit ?_ | refine E_blk ?_ | refine E_code ?_ | refine E_blk_ne (by decide) ?_ | refine W_ret ?_ | refine R_code ?_ | refine R_blk ?_ | refine L_exit ?_ | refine L_ret ?_ | refine F_ret ?_ | refine F_out (by decide) ?_ | refine FW_ret ?_ | refine FW_out (by decide) ?_ | refine R_nil ?_
      | ((with_reducible apply W_condT); (case hb => exact rfl); (case hw => with_reducible rfl))
      | ((with_reducible apply W_condF); (case hb => exact rfl); (case hw => with_reducible rfl))
      | ((with_reducible apply W_condE); (case hb => exact rfl); (case e1 => exact sT); (case e2 => exact sT); all_goals (intro hb; first | (simp (disch := omega) only [go_sem] at hb; done) | (simp (disch := omega) only [go_sem] at hb; try omega) | try omega))
      | (with_reducible refine W_reg fun K hK => ?_)
      | (with_reducible refine W_drwR rfl mixed (by decide +kernel) fun K hK => ?_)
      | (with_reducible refine W_drw mixed (by decide +kernel) fun K hK => ?_)
      | ((with_reducible refine AO_nil (hK _ ?_)); clear hK K)
      | ((with_reducible apply D_admE); (case hop => exact rfl); (case ha => exact rfl); (case hna => exact rfl); (try case hl => exact tT); (case hg => exact gT); (case hy => exact rfl); (case ht => exact pT); (case hn => exact nT); (try case hc => exact rfl))
      | ((with_reducible apply D_adrE); (case ha => exact rfl); (case hna => exact rfl); (try case hl => exact tT); (case hg => exact gT); (case hs => simp (maxSteps := 2000000) (disch := omega) only [go_sem]; exact rfl); (case ht => exact pT); (case hn => exact nT); (try case hc => exact rfl))
      | ((with_reducible first | apply AO_mvE | apply V_mvE | apply D_mvE); (case hop => exact rfl); (case hg => exact gT); (try case hw => exact rfl); (try case hl => exact tT); (case hy => exact rfl); (case ht => exact pT); (case hn => exact nT); (try case hc => exact rfl))
      | ((with_reducible first | apply AO_stepE | apply V_stepE | apply D_stepE); (case hg => exact gT); (try case hw => exact rfl); (try case hl => exact tT); (case hs => simp (maxSteps := 2000000) (disch := omega) only [go_sem]; exact rfl); (case ht => exact pT); (case hn => exact nT); (try case hc => exact rfl))
      | ((with_reducible first | apply AO_skipE | apply V_skipE | apply D_skipE); (case hg => exact gF); (case ht => exact pT); (case hn => exact nT); (try case hc => exact rfl))
      | ((with_reducible first | apply V_end | apply D_end); (case hi => exact rfl); (try case hind => kernel_rfl); (case hn => exact nT); (with_reducible refine hK _ ?_); clear hK K)
      | ((with_reducible first | apply AO_callE | apply V_callE | apply D_callE); (case hg => exact gT); (case ho => exact rfl); (case ht => exact rfl); (case hp' => first | exact c1); (case htm => exact pT); (case hn => exact nT); (try case hc => exact rfl))
      | ((with_reducible apply AO_nilE); (case hg => exact gT); (case ho => exact rfl); (case ht => simp only [go_sem]; exact rfl); (case hx => exact rfl); (case hn => exact nT); intro bn hnil; (try simp (disch := omega) only [go_sem] at hnil); dsimp only [putT, List.set_cons_succ, List.set_cons_zero])
      | ((fail_if_success ((with_reducible first | apply AO_stepE | apply V_stepE | apply D_stepE); (case hg => exact gT))); (fail_if_success ((with_reducible first | apply AO_skipE | apply V_skipE | apply D_skipE); (case hg => exact gF))); (with_reducible first | apply AO_split | apply V_split | apply D_split); (case hg => exact rfl); (case hd => exact rfl); (case hb => exact rfl); (case e1 => exact sT); (case e2 => exact sT); all_goals (intro hg; first | (simp (disch := omega) only [go_sem] at hg; try omega) | try omega))
    all_goals (generalize hspec : moveB b id to = rspec; simp (disch := omega) only [moveB, h1, ite_t, ite_f] at hspec; subst hspec; (with_reducible apply retQ_frz); (case h => simp (disch := omega) only [go_sem]; exact rfl); (case hq => exact rfl); (case hz => simp [Fz.int_iff, Fz.bool_iff, Fz.agg_iff, Fz.str_iff, rws_fz_iff, ri_fz_iff, Fz.tuple_iff, enc_fz_iff, enc_mem_iff, Fz.fp_iff, Fz.func_iff]); (case hf => repeat' first | exact .refl _ | (refine .tupleC ?_) | (refine .cons ?_ ?_) | exact .nil | exact .slR (.refl _) | exact .refE trivial (by simp only [go_sem]; exact rfl) (by first | rfl | (simp; done) | (simp [rws, Enc.enc]; done)) (by first | rfl | simp [rws_length]) | (refine .aggC ?_)))

end Go.Proofs.Ytenlmlhepcgpiaa
