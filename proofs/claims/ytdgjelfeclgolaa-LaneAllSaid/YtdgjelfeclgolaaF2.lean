/-
  Lanes: a ticket is cut out; walked.
-/
import Derived.Test.YtdgjelfeclgolaaF1
namespace Go.Proofs.Ytdgjelfeclgolaa
open Go Go.AM
set_option maxHeartbeats 2000000
set_option linter.unusedSimpArgs false
set_option linter.unusedVariables false

def zeroT : TTicket := ⟨0, 0, 0, 0, 0⟩

theorem cut_len {l : List TTicket} {i : Nat} (hi : i < l.length) : (l.eraseIdx i).length = l.length - 1 := by rw [List.length_eraseIdx, if_pos hi]

theorem delete_ok (h0 : Heap) (l : List TTicket) (i : Nat) (hi : i < l.length) (hl : l.length ≤ 4294967296) :
    HCall Try.prog 109 [.ref 12 l.length 0 l.length false l.length, .int .i64 i, .int .i64 ((i : Int) + 1)] ((12, .arr 5 (rws l)) :: h0) 16 (fun r h n => r = .ref 12 l.length 0 (l.length - 1) false l.length ∧ h = (12, .arr 5 (rws (l.eraseIdx i ++ [zeroT]))) :: h0 ∧ n = 45) := by
  have t1 : ((i : Int) + 1).toNat = i + 1 := by omega
  have a1 : List.take (l.length - (i + 1)) (List.drop (i + 1) (rws l)) = rws (l.drop (i + 1)) := by rw [rws_drop, rws_take, List.take_of_length_le (by simp)]
  have d1 : (List.drop (i + 1) l).length = l.length - (i + 1) := List.length_drop
  have d2 : i + (l.length - (i + 1)) = l.length - 1 := by omega
  have d3 : l.length - (l.length - 1) = 1 := by omega
  have d4 : l.length - 1 + 1 = l.length := by omega
  obtain ⟨L2, hL2⟩ : ∃ L2, L2 = l.take i ++ l.drop (i + 1) ++ l.drop (l.length - 1) := ⟨_, rfl⟩
  have r1 : List.take i (rws l) ++ rws (List.drop (i + 1) l) ++ List.drop (l.length - 1) (rws l) = rws L2 := by rw [rws_take, rws_drop, rws_append, rws_append, hL2]
  have e0 : l.eraseIdx i = l.take i ++ l.drop (i + 1) := List.eraseIdx_eq_take_drop_succ l i
  have hlen2 : L2.length = l.length := by rw [hL2]; simp; omega
  have r2 : List.take (l.length - 1) (rws L2) ++ [Enc.enc zeroT] ++ List.drop l.length (rws L2) = rws (l.eraseIdx i ++ [zeroT]) := by
    have h1 : List.take (l.length - 1) L2 = l.eraseIdx i := by
      rw [hL2, e0, List.take_left' (by simp; omega)]
    rw [rws_take, rws_drop, h1, rws_snoc, rws_append, List.drop_of_length_le (by omega), List.append_nil]
  simp only [enc_TTicket, zeroT] at r2
  generalize hN : l.length = N at *
  refine HCall_intro (c := Try.f109.body.getD .skip) Try.func109 rfl (by decide +kernel) (W_start ?_)
  simp only [Try.f109, go_sem]
  repeat' first
    | with_reducible first | refine W_seq ?_ | refine W_block ?_ | refine W_skip ?_ | refine N_code ?_ | refine N_blk ?_ | refine W_exit ?_ | refine E_blk ?_ | refine E_code ?_ | refine E_blk_ne (by decide) ?_ | refine W_ret ?_ | refine R_code ?_ | refine R_blk ?_ | refine L_exit ?_ | refine L_ret ?_ | refine F_ret ?_ | refine F_out (by decide) ?_ | refine FW_ret ?_ | refine FW_out (by decide) ?_ | refine R_nil ?_
    | ((with_reducible apply W_condT); (case hb => exact rfl); (case hw => with_reducible rfl))
    | ((with_reducible apply W_condF); (case hb => exact rfl); (case hw => with_reducible rfl))
    | ((with_reducible apply W_condE); (case hb => exact rfl); (case e1 => exact sT); (case e2 => exact sT); all_goals (intro hb; first | (simp (disch := omega) only [go_sem, t1, a1, d1, d2, d3, d4, r1, r2] at hb; done) | (simp (disch := omega) only [go_sem, t1, a1, d1, d2, d3, d4, r1, r2] at hb; try omega) | try omega))
    | (with_reducible refine W_reg fun K hK => ?_)
    | (with_reducible refine W_drwR rfl mixed (by decide +kernel) fun K hK => ?_)
    | (with_reducible refine W_drw mixed (by decide +kernel) fun K hK => ?_)
    | ((with_reducible refine AO_nil (hK _ ?_)); clear hK K)
    | ((with_reducible apply D_admE); (case hop => exact rfl); (case ha => exact rfl); (case hna => exact rfl); (try case hl => exact tT); (case hg => exact gT); (case hy => exact rfl); (case ht => exact pT); (case hn => exact nT); (try case hc => exact rfl))
    | ((with_reducible apply D_adrE); (case ha => exact rfl); (case hna => exact rfl); (try case hl => exact tT); (case hg => exact gT); (case hs => simp (maxSteps := 2000000) (disch := omega) only [go_sem, t1, a1, d1, d2, d3, d4, r1, r2]; exact rfl); (case ht => exact pT); (case hn => exact nT); (try case hc => exact rfl))
    | ((with_reducible first | apply AO_mvE | apply V_mvE | apply D_mvE); (case hop => exact rfl); (case hg => exact gT); (try case hw => exact rfl); (try case hl => exact tT); (case hy => exact rfl); (case ht => exact pT); (case hn => exact nT); (try case hc => exact rfl))
    | ((with_reducible first | apply AO_stepE | apply V_stepE | apply D_stepE); (case hg => exact gT); (try case hw => exact rfl); (try case hl => exact tT); (case hs => simp (maxSteps := 2000000) (disch := omega) only [go_sem, t1, a1, d1, d2, d3, d4, r1, r2]; exact rfl); (case ht => exact pT); (case hn => exact nT); (try case hc => exact rfl))
    | ((with_reducible first | apply AO_skipE | apply V_skipE | apply D_skipE); (case hg => exact gF); (case ht => exact pT); (case hn => exact nT); (try case hc => exact rfl))
    | ((with_reducible first | apply V_end | apply D_end); (case hi => exact rfl); (try case hind => kernel_rfl); (case hn => exact nT); (with_reducible refine hK _ ?_); clear hK K)
    | ((with_reducible apply AO_nilE); (case hg => exact gT); (case ho => exact rfl); (case ht => simp only [go_sem]; exact rfl); (case hx => exact rfl); (case hn => exact nT); intro bn hnil; (try simp (disch := omega) only [go_sem, t1, a1, d1, d2, d3, d4, r1, r2] at hnil); dsimp only [putT, List.set_cons_succ, List.set_cons_zero])
    | ((with_reducible apply AO_clearE); (case hg => exact gT); (case ho => exact rfl); (case hcb => exact rfl); (case hct => exact rfl); (case hca => exact rfl); (case hx => exact rfl); (case hl => simp only [go_sem]; exact rfl); (case ht => simp only [go_sem]; exact rfl); (case he => simp only [go_sem]; exact rfl); (case hz => simp only [go_sem]; exact rfl); (case hzl => exact rfl); (case hsz => first | omega | (simp (disch := omega) only [go_sem, t1, a1, d1, d2, d3, d4, r1, r2]; omega) | simp (disch := omega) only [go_sem, t1, a1, d1, d2, d3, d4, r1, r2]); (case hb => omega); (case hlen => omega); (case hd => exact rfl); (case hh => simp (disch := omega) only [go_sem, t1, a1, d1, d2, d3, d4, r1, r2]; exact rfl); (case hn => exact nT))
    | ((fail_if_success ((with_reducible first | apply AO_stepE | apply V_stepE | apply D_stepE); (case hg => exact gT))); (fail_if_success ((with_reducible first | apply AO_skipE | apply V_skipE | apply D_skipE); (case hg => exact gF))); (with_reducible first | apply AO_split | apply V_split | apply D_split); (case hg => exact rfl); (case hd => exact rfl); (case hb => exact rfl); (case e1 => exact sT); (case e2 => exact sT); all_goals (intro hg; first | (simp (disch := omega) only [go_sem, t1, a1, d1, d2, d3, d4, r1, r2] at hg; try omega) | try omega))
  apply retH_of
  case h => simp only [go_sem]; exact rfl
  case h2 => exact rfl
  case h3 => exact rfl
  case h4 => exact rfl

theorem without_ok (l : TLane) (i : Nat) (t : TTicket) (hi : i < l.wait.length) (ht : l.wait[i]? = some t) (hl : l.wait.length ≤ 4294967296) : PCall Try.prog 92 [.agg (Enc.enc l), .int .i64 i] (· = .tuple [.agg (Enc.enc (⟨l.start, l.wait.eraseIdx i⟩ : TLane)), .agg (Enc.enc t)]) := by
  have c1 := clone_ok l.wait hl
  have c2 := fun h0 => delete_ok h0 l.wait i hi hl
  have f1 : (rws (l.wait.eraseIdx i ++ [zeroT])).length = l.wait.length := by rw [rws_length, List.length_append, cut_len hi]; simp; omega
  have f2 : List.take (l.wait.length - 1) (rws (l.wait.eraseIdx i ++ [zeroT])) = rws (l.wait.eraseIdx i) := by rw [rws_take, List.take_left' (cut_len hi)]
  refine PCall_intro (c := Try.f92.body.getD .skip) Try.func92 rfl (by decide +kernel) (by simp [Fz.int_iff, Fz.bool_iff, Fz.agg_iff, Fz.str_iff, rws_fz_iff, ri_fz_iff, enc_mem_iff, Fz.fp_iff, Fz.func_iff]) (W_start ?_)
  simp only [Try.f92, go_sem]
  repeat' first
    | with_reducible first | refine W_seq ?_ | refine W_block ?_ | refine W_skip ?_ | refine N_code ?_ | refine N_blk ?_ | refine W_exit ?_ | refine E_blk ?_ | refine E_code ?_ | refine E_blk_ne (by decide) ?_ | refine W_ret ?_ | refine R_code ?_ | refine R_blk ?_ | refine L_exit ?_ | refine L_ret ?_ | refine F_ret ?_ | refine F_out (by decide) ?_ | refine FW_ret ?_ | refine FW_out (by decide) ?_ | refine R_nil ?_
    | ((with_reducible apply W_condT); (case hb => exact rfl); (case hw => with_reducible rfl))
    | ((with_reducible apply W_condF); (case hb => exact rfl); (case hw => with_reducible rfl))
    | ((with_reducible apply W_condE); (case hb => exact rfl); (case e1 => exact sT); (case e2 => exact sT); all_goals (intro hb; first | (simp (disch := omega) only [go_sem, rws_get ht] at hb; done) | (simp (disch := omega) only [go_sem, rws_get ht] at hb; try omega) | try omega))
    | (with_reducible refine W_reg fun K hK => ?_)
    | (with_reducible refine W_drwR rfl mixed (by decide +kernel) fun K hK => ?_)
    | (with_reducible refine W_drw mixed (by decide +kernel) fun K hK => ?_)
    | ((with_reducible refine AO_nil (hK _ ?_)); clear hK K)
    | ((with_reducible apply D_admE); (case hop => exact rfl); (case ha => exact rfl); (case hna => exact rfl); (try case hl => exact tT); (case hg => exact gT); (case hy => exact rfl); (case ht => exact pT); (case hn => exact nT); (try case hc => exact rfl))
    | ((with_reducible apply D_adrE); (case ha => exact rfl); (case hna => exact rfl); (try case hl => exact tT); (case hg => exact gT); (case hs => simp (maxSteps := 2000000) (disch := omega) only [go_sem, rws_get ht]; exact rfl); (case ht => exact pT); (case hn => exact nT); (try case hc => exact rfl))
    | ((with_reducible first | apply AO_mvE | apply V_mvE | apply D_mvE); (case hop => exact rfl); (case hg => exact gT); (try case hw => exact rfl); (try case hl => exact tT); (case hy => exact rfl); (case ht => exact pT); (case hn => exact nT); (try case hc => exact rfl))
    | ((with_reducible first | apply AO_stepE | apply V_stepE | apply D_stepE); (case hg => exact gT); (try case hw => exact rfl); (try case hl => exact tT); (case hs => simp (maxSteps := 2000000) (disch := omega) only [go_sem, rws_get ht]; exact rfl); (case ht => exact pT); (case hn => exact nT); (try case hc => exact rfl))
    | ((with_reducible first | apply AO_skipE | apply V_skipE | apply D_skipE); (case hg => exact gF); (case ht => exact pT); (case hn => exact nT); (try case hc => exact rfl))
    | ((with_reducible first | apply V_end | apply D_end); (case hi => exact rfl); (try case hind => kernel_rfl); (case hn => exact nT); (with_reducible refine hK _ ?_); clear hK K)
    | ((with_reducible first | apply AO_newE | apply D_newE); (case hg => exact gT); (case ho => exact rfl); (case ht => exact rfl); (case hc => exact c1); (case hf => exact frT); (try case hid => exact nT); (case hy => first | (simp only [List.map_cons, List.map_nil]; exact rfl) | exact rfl); (case htm => exact pT); (case hn => exact nT); (try case htc => exact rfl))
    | ((with_reducible apply AO_nilE); (case hg => exact gT); (case ho => exact rfl); (case ht => simp only [go_sem]; exact rfl); (case hx => exact rfl); (case hn => exact nT); intro bn hnil; (try simp (disch := omega) only [go_sem, rws_get ht] at hnil); dsimp only [putT, List.set_cons_succ, List.set_cons_zero])
    | ((with_reducible apply AO_hcallD); (case hg => exact gT); (case ho => exact rfl); (case ht => exact rfl); (case hc => exact (c2 _)); (case hy => exact rfl); (case hh => exact rfl); (case hn => first | (simp only [Nat.reduceAdd]; exact rfl) | exact rfl); (case htm => exact pT))
    | ((fail_if_success ((with_reducible first | apply AO_stepE | apply V_stepE | apply D_stepE); (case hg => exact gT))); (fail_if_success ((with_reducible first | apply AO_skipE | apply V_skipE | apply D_skipE); (case hg => exact gF))); (with_reducible first | apply AO_split | apply V_split | apply D_split); (case hg => exact rfl); (case hd => exact rfl); (case hb => exact rfl); (case e1 => exact sT); (case e2 => exact sT); all_goals (intro hg; first | (simp (disch := omega) only [go_sem, rws_get ht] at hg; try omega) | try omega))
  (with_reducible apply retQ_frz); (case h => simp (disch := omega) only [go_sem]; exact rfl); (case hq => exact rfl); (case hz => simp [Fz.int_iff, Fz.bool_iff, Fz.agg_iff, Fz.str_iff, rws_fz_iff, ri_fz_iff, Fz.tuple_iff, enc_fz_iff, enc_mem_iff, Fz.fp_iff, Fz.func_iff]); (case hf => repeat' first | exact .refl _ | (refine .tupleC ?_) | (refine .cons ?_ ?_) | exact .nil | exact .slR (.refl _) | exact .refE trivial (by simp only [go_sem]; exact rfl) (by first | rfl | (simp; done) | (simp [rws, Enc.enc]; done)) (by first | rfl | simp [rws_length]) | exact .refP trivial (by simp only [go_sem]; exact rfl) (by first | rfl | assumption | (simp [rws_length]; omega)) (by omega) (by first | assumption | (simp only [List.drop_zero]; assumption)) | (refine .aggC ?_))

theorem copied_ok (l : TLane) (hl : l.wait.length ≤ 4294967296) : PCall Try.prog 91 [.agg (Enc.enc l)] (· = .agg (Enc.enc l)) := by
  have c1 := clone_ok l.wait hl
  refine PCall_intro (c := Try.f91.body.getD .skip) Try.func91 rfl (by decide +kernel) (by simp [Fz.int_iff, Fz.bool_iff, Fz.agg_iff, Fz.str_iff, rws_fz_iff, ri_fz_iff, enc_mem_iff, Fz.fp_iff, Fz.func_iff]) (W_start ?_)
  simp only [Try.f91, go_sem]
  repeat' first
    | with_reducible first | refine W_seq ?_ | refine W_block ?_ | refine W_skip ?_ | refine N_code ?_ | refine N_blk ?_ | refine W_exit ?_ | refine E_blk ?_ | refine E_code ?_ | refine E_blk_ne (by decide) ?_ | refine W_ret ?_ | refine R_code ?_ | refine R_blk ?_ | refine L_exit ?_ | refine L_ret ?_ | refine F_ret ?_ | refine F_out (by decide) ?_ | refine FW_ret ?_ | refine FW_out (by decide) ?_ | refine R_nil ?_
    | ((with_reducible apply W_condT); (case hb => exact rfl); (case hw => with_reducible rfl))
    | ((with_reducible apply W_condF); (case hb => exact rfl); (case hw => with_reducible rfl))
    | ((with_reducible apply W_condE); (case hb => exact rfl); (case e1 => exact sT); (case e2 => exact sT); all_goals (intro hb; first | (simp (disch := omega) only [go_sem] at hb; done) | (simp (disch := omega) only [go_sem] at hb; try omega) | try omega))
    | (with_reducible refine W_reg fun K hK => ?_)
    | (with_reducible refine W_drwR rfl mixed (by decide +kernel) fun K hK => ?_)
    | (with_reducible refine W_drw mixed (by decide +kernel) fun K hK => ?_)
    | ((with_reducible refine AO_nil (hK _ ?_)); clear hK K)
    | ((with_reducible apply D_admE); (case hop => exact rfl); (case ha => exact rfl); (case hna => exact rfl); (try case hl => exact tT); (case hg => exact gT); (case hy => exact rfl); (case ht => exact pT); (case hn => exact nT); (try case hc => exact rfl))
    | ((with_reducible apply D_adrE); (case ha => exact rfl); (case hna => exact rfl); (try case hl => exact tT); (case hg => exact gT); (case hs => simp (maxSteps := 2000000) (disch := omega) only [go_sem]; exact rfl); (case ht => exact pT); (case hn => exact nT); (try case hc => exact rfl))
    | ((with_reducible first | apply AO_mvE | apply V_mvE | apply D_mvE); (case hop => exact rfl); (case hg => exact gT); (try case hw => exact rfl); (try case hl => exact tT); (case hy => exact rfl); (case ht => exact pT); (case hn => exact nT); (try case hc => exact rfl))
    | ((with_reducible first | apply AO_stepE | apply V_stepE | apply D_stepE); (case hg => exact gT); (try case hw => exact rfl); (try case hl => exact tT); (case hs => simp (maxSteps := 2000000) (disch := omega) only [go_sem]; exact rfl); (case ht => exact pT); (case hn => exact nT); (try case hc => exact rfl))
    | ((with_reducible first | apply AO_skipE | apply V_skipE | apply D_skipE); (case hg => exact gF); (case ht => exact pT); (case hn => exact nT); (try case hc => exact rfl))
    | ((with_reducible first | apply V_end | apply D_end); (case hi => exact rfl); (try case hind => kernel_rfl); (case hn => exact nT); (with_reducible refine hK _ ?_); clear hK K)
    | ((with_reducible first | apply AO_newE | apply D_newE); (case hg => exact gT); (case ho => exact rfl); (case ht => exact rfl); (case hc => exact c1); (case hf => exact frT); (try case hid => exact nT); (case hy => first | (simp only [List.map_cons, List.map_nil]; exact rfl) | exact rfl); (case htm => exact pT); (case hn => exact nT); (try case htc => exact rfl))
    | ((with_reducible apply AO_nilE); (case hg => exact gT); (case ho => exact rfl); (case ht => simp only [go_sem]; exact rfl); (case hx => exact rfl); (case hn => exact nT); intro bn hnil; (try simp (disch := omega) only [go_sem] at hnil); dsimp only [putT, List.set_cons_succ, List.set_cons_zero])
    | ((fail_if_success ((with_reducible first | apply AO_stepE | apply V_stepE | apply D_stepE); (case hg => exact gT))); (fail_if_success ((with_reducible first | apply AO_skipE | apply V_skipE | apply D_skipE); (case hg => exact gF))); (with_reducible first | apply AO_split | apply V_split | apply D_split); (case hg => exact rfl); (case hd => exact rfl); (case hb => exact rfl); (case e1 => exact sT); (case e2 => exact sT); all_goals (intro hg; first | (simp (disch := omega) only [go_sem] at hg; try omega) | try omega))
  (with_reducible apply retQ_frz); (case h => simp (disch := omega) only [go_sem]; exact rfl); (case hq => exact rfl); (case hz => simp [Fz.int_iff, Fz.bool_iff, Fz.agg_iff, Fz.str_iff, rws_fz_iff, ri_fz_iff, Fz.tuple_iff, enc_fz_iff, enc_mem_iff, Fz.fp_iff, Fz.func_iff]); (case hf => repeat' first | exact .refl _ | (refine .tupleC ?_) | (refine .cons ?_ ?_) | exact .nil | exact .slR (.refl _) | exact .refE trivial (by simp only [go_sem]; exact rfl) (by first | rfl | (simp; done) | (simp [rws, Enc.enc]; done)) (by first | rfl | simp [rws_length]) | exact .refP trivial (by simp only [go_sem]; exact rfl) (by first | rfl | assumption | (simp [rws_length]; omega)) (by omega) (by first | assumption | (simp only [List.drop_zero]; assumption)) | (refine .aggC ?_))

/-- Who joins a lane. -/
def join (l : TLane) (r : Int) (t : TTicket) : TLane := ⟨if l.wait.length = 0 then max l.start r else l.start, l.wait ++ [t]⟩

theorem join_ok (l : TLane) (r : Int) (t : TTicket) (hl : l.wait.length ≤ 4294967295) : PCall Try.prog 20 [.agg (Enc.enc l), .int .u64 r, .agg (Enc.enc t)] (· = .agg (Enc.enc (join l r t))) := by
  have c1 := clone_ok l.wait (by omega)
  have e1 := rws_snoc l.wait t
  simp only [enc_TTicket] at e1
  refine PCall_intro (c := Try.f20.body.getD .skip) Try.func20 rfl (by decide +kernel) (by simp [Fz.int_iff, Fz.bool_iff, Fz.agg_iff, Fz.str_iff, rws_fz_iff, ri_fz_iff, enc_mem_iff, Fz.fp_iff, Fz.func_iff]) (W_start ?_)
  simp only [Try.f20, go_sem]
  by_cases h0 : l.wait.length = 0
  · have e0 : join l r t = ⟨max l.start r, l.wait ++ [t]⟩ := by rw [join, if_pos h0]
    rw [e0]
    repeat' first
      | with_reducible first | refine W_seq ?_ | refine W_block ?_ | refine W_skip ?_ | refine N_code ?_ | refine N_blk ?_ | refine W_exit ?_ | refine E_blk ?_ | refine E_code ?_ | refine E_blk_ne (by decide) ?_ | refine W_ret ?_ | refine R_code ?_ | refine R_blk ?_ | refine L_exit ?_ | refine L_ret ?_ | refine F_ret ?_ | refine F_out (by decide) ?_ | refine FW_ret ?_ | refine FW_out (by decide) ?_ | refine R_nil ?_
      | ((with_reducible apply W_condT); (case hb => exact rfl); (case hw => with_reducible rfl))
      | ((with_reducible apply W_condF); (case hb => exact rfl); (case hw => with_reducible rfl))
      | ((with_reducible apply W_condE); (case hb => exact rfl); (case e1 => exact sT); (case e2 => exact sT); all_goals (intro hb; first | (simp (disch := omega) only [go_sem, e1] at hb; done) | (simp (disch := omega) only [go_sem, e1] at hb; try omega) | try omega))
      | (with_reducible refine W_reg fun K hK => ?_)
      | (with_reducible refine W_drwR rfl mixed (by decide +kernel) fun K hK => ?_)
      | (with_reducible refine W_drw mixed (by decide +kernel) fun K hK => ?_)
      | ((with_reducible refine AO_nil (hK _ ?_)); clear hK K)
      | ((with_reducible apply D_admE); (case hop => exact rfl); (case ha => exact rfl); (case hna => exact rfl); (try case hl => exact tT); (case hg => exact gT); (case hy => exact rfl); (case ht => exact pT); (case hn => exact nT); (try case hc => exact rfl))
      | ((with_reducible apply D_adrE); (case ha => exact rfl); (case hna => exact rfl); (try case hl => exact tT); (case hg => exact gT); (case hs => simp (maxSteps := 2000000) (disch := omega) only [go_sem, e1]; exact rfl); (case ht => exact pT); (case hn => exact nT); (try case hc => exact rfl))
      | ((with_reducible first | apply AO_mvE | apply V_mvE | apply D_mvE); (case hop => exact rfl); (case hg => exact gT); (try case hw => exact rfl); (try case hl => exact tT); (case hy => exact rfl); (case ht => exact pT); (case hn => exact nT); (try case hc => exact rfl))
      | ((with_reducible first | apply AO_stepE | apply V_stepE | apply D_stepE); (case hg => exact gT); (try case hw => exact rfl); (try case hl => exact tT); (case hs => simp (maxSteps := 2000000) (disch := omega) only [go_sem, e1]; exact rfl); (case ht => exact pT); (case hn => exact nT); (try case hc => exact rfl))
      | ((with_reducible first | apply AO_skipE | apply V_skipE | apply D_skipE); (case hg => exact gF); (case ht => exact pT); (case hn => exact nT); (try case hc => exact rfl))
      | ((with_reducible first | apply V_end | apply D_end); (case hi => exact rfl); (try case hind => kernel_rfl); (case hn => exact nT); (with_reducible refine hK _ ?_); clear hK K)
      | ((with_reducible first | apply AO_newE | apply D_newE); (case hg => exact gT); (case ho => exact rfl); (case ht => exact rfl); (case hc => exact c1); (case hf => exact frT); (try case hid => exact nT); (case hy => first | (simp only [List.map_cons, List.map_nil]; exact rfl) | exact rfl); (case htm => exact pT); (case hn => exact nT); (try case htc => exact rfl))
      | ((with_reducible apply AO_nilE); (case hg => exact gT); (case ho => exact rfl); (case ht => simp only [go_sem]; exact rfl); (case hx => exact rfl); (case hn => exact nT); intro bn hnil; (try simp (disch := omega) only [go_sem, e1] at hnil); dsimp only [putT, List.set_cons_succ, List.set_cons_zero])
      | ((fail_if_success ((with_reducible first | apply AO_stepE | apply V_stepE | apply D_stepE); (case hg => exact gT))); (fail_if_success ((with_reducible first | apply AO_skipE | apply V_skipE | apply D_skipE); (case hg => exact gF))); (with_reducible first | apply AO_split | apply V_split | apply D_split); (case hg => exact rfl); (case hd => exact rfl); (case hb => exact rfl); (case e1 => exact sT); (case e2 => exact sT); all_goals (intro hg; first | (simp (disch := omega) only [go_sem, e1] at hg; try omega) | try omega))
    (with_reducible apply retQ_frz); (case h => simp (disch := omega) only [go_sem]; exact rfl); (case hq => exact rfl); (case hz => simp [Fz.int_iff, Fz.bool_iff, Fz.agg_iff, Fz.str_iff, rws_fz_iff, ri_fz_iff, Fz.tuple_iff, enc_fz_iff, enc_mem_iff, Fz.fp_iff, Fz.func_iff]); (case hf => repeat' first | exact .refl _ | (refine .tupleC ?_) | (refine .cons ?_ ?_) | exact .nil | exact .slR (.refl _) | exact .refE trivial (by simp only [go_sem]; exact rfl) (by first | rfl | (simp; done) | (simp [rws, Enc.enc]; done)) (by first | rfl | simp [rws_length]) | exact .refP trivial (by simp only [go_sem]; exact rfl) (by first | rfl | assumption | (simp [rws_length]; omega)) (by omega) (by first | assumption | (simp only [List.drop_zero]; assumption)) | (refine .aggC ?_))
  · have e0 : join l r t = ⟨l.start, l.wait ++ [t]⟩ := by rw [join, if_neg h0]
    rw [e0]
    repeat' first
      | with_reducible first | refine W_seq ?_ | refine W_block ?_ | refine W_skip ?_ | refine N_code ?_ | refine N_blk ?_ | refine W_exit ?_ | refine E_blk ?_ | refine E_code ?_ | refine E_blk_ne (by decide) ?_ | refine W_ret ?_ | refine R_code ?_ | refine R_blk ?_ | refine L_exit ?_ | refine L_ret ?_ | refine F_ret ?_ | refine F_out (by decide) ?_ | refine FW_ret ?_ | refine FW_out (by decide) ?_ | refine R_nil ?_
      | ((with_reducible apply W_condT); (case hb => exact rfl); (case hw => with_reducible rfl))
      | ((with_reducible apply W_condF); (case hb => exact rfl); (case hw => with_reducible rfl))
      | ((with_reducible apply W_condE); (case hb => exact rfl); (case e1 => exact sT); (case e2 => exact sT); all_goals (intro hb; first | (simp (disch := omega) only [go_sem, e1] at hb; done) | (simp (disch := omega) only [go_sem, e1] at hb; try omega) | try omega))
      | (with_reducible refine W_reg fun K hK => ?_)
      | (with_reducible refine W_drwR rfl mixed (by decide +kernel) fun K hK => ?_)
      | (with_reducible refine W_drw mixed (by decide +kernel) fun K hK => ?_)
      | ((with_reducible refine AO_nil (hK _ ?_)); clear hK K)
      | ((with_reducible apply D_admE); (case hop => exact rfl); (case ha => exact rfl); (case hna => exact rfl); (try case hl => exact tT); (case hg => exact gT); (case hy => exact rfl); (case ht => exact pT); (case hn => exact nT); (try case hc => exact rfl))
      | ((with_reducible apply D_adrE); (case ha => exact rfl); (case hna => exact rfl); (try case hl => exact tT); (case hg => exact gT); (case hs => simp (maxSteps := 2000000) (disch := omega) only [go_sem, e1]; exact rfl); (case ht => exact pT); (case hn => exact nT); (try case hc => exact rfl))
      | ((with_reducible first | apply AO_mvE | apply V_mvE | apply D_mvE); (case hop => exact rfl); (case hg => exact gT); (try case hw => exact rfl); (try case hl => exact tT); (case hy => exact rfl); (case ht => exact pT); (case hn => exact nT); (try case hc => exact rfl))
      | ((with_reducible first | apply AO_stepE | apply V_stepE | apply D_stepE); (case hg => exact gT); (try case hw => exact rfl); (try case hl => exact tT); (case hs => simp (maxSteps := 2000000) (disch := omega) only [go_sem, e1]; exact rfl); (case ht => exact pT); (case hn => exact nT); (try case hc => exact rfl))
      | ((with_reducible first | apply AO_skipE | apply V_skipE | apply D_skipE); (case hg => exact gF); (case ht => exact pT); (case hn => exact nT); (try case hc => exact rfl))
      | ((with_reducible first | apply V_end | apply D_end); (case hi => exact rfl); (try case hind => kernel_rfl); (case hn => exact nT); (with_reducible refine hK _ ?_); clear hK K)
      | ((with_reducible first | apply AO_newE | apply D_newE); (case hg => exact gT); (case ho => exact rfl); (case ht => exact rfl); (case hc => exact c1); (case hf => exact frT); (try case hid => exact nT); (case hy => first | (simp only [List.map_cons, List.map_nil]; exact rfl) | exact rfl); (case htm => exact pT); (case hn => exact nT); (try case htc => exact rfl))
      | ((with_reducible apply AO_nilE); (case hg => exact gT); (case ho => exact rfl); (case ht => simp only [go_sem]; exact rfl); (case hx => exact rfl); (case hn => exact nT); intro bn hnil; (try simp (disch := omega) only [go_sem, e1] at hnil); dsimp only [putT, List.set_cons_succ, List.set_cons_zero])
      | ((fail_if_success ((with_reducible first | apply AO_stepE | apply V_stepE | apply D_stepE); (case hg => exact gT))); (fail_if_success ((with_reducible first | apply AO_skipE | apply V_skipE | apply D_skipE); (case hg => exact gF))); (with_reducible first | apply AO_split | apply V_split | apply D_split); (case hg => exact rfl); (case hd => exact rfl); (case hb => exact rfl); (case e1 => exact sT); (case e2 => exact sT); all_goals (intro hg; first | (simp (disch := omega) only [go_sem, e1] at hg; try omega) | try omega))
    (with_reducible apply retQ_frz); (case h => simp (disch := omega) only [go_sem]; exact rfl); (case hq => exact rfl); (case hz => simp [Fz.int_iff, Fz.bool_iff, Fz.agg_iff, Fz.str_iff, rws_fz_iff, ri_fz_iff, Fz.tuple_iff, enc_fz_iff, enc_mem_iff, Fz.fp_iff, Fz.func_iff]); (case hf => repeat' first | exact .refl _ | (refine .tupleC ?_) | (refine .cons ?_ ?_) | exact .nil | exact .slR (.refl _) | exact .refE trivial (by simp only [go_sem]; exact rfl) (by first | rfl | (simp; done) | (simp [rws, Enc.enc]; done)) (by first | rfl | simp [rws_length]) | exact .refP trivial (by simp only [go_sem]; exact rfl) (by first | rfl | assumption | (simp [rws_length]; omega)) (by omega) (by first | assumption | (simp only [List.drop_zero]; assumption)) | (refine .aggC ?_))

/-- The finish of the first who waits. -/
def fin (l : TLane) (g : Int) : Int × Bool := match l.wait with | [] => (0, false) | t :: _ => (add l.start (work t g), true)

theorem fin_ok (l : TLane) (g : Int) (hs : 0 ≤ l.start) (hl : l.wait.length ≤ 4294967296) : PCall Try.prog 25 [.agg (Enc.enc l), .int .i64 g] (· = .tuple [.int .u64 (fin l g).1, .bool (fin l g).2]) := by
  obtain ⟨st, w⟩ := l
  simp only [] at hs hl
  refine PCall_intro (c := Try.f25.body.getD .skip) Try.func25 rfl (by decide +kernel) (by simp [Fz.int_iff, Fz.bool_iff, Fz.agg_iff, Fz.str_iff, rws_fz_iff, ri_fz_iff, enc_mem_iff, Fz.fp_iff, Fz.func_iff]) (W_start ?_)
  simp only [Try.f25, go_sem]
  rcases w with _ | ⟨t, w⟩
  · repeat' first
      | with_reducible first | refine W_seq ?_ | refine W_block ?_ | refine W_skip ?_ | refine N_code ?_ | refine N_blk ?_ | refine W_exit ?_ | refine E_blk ?_ | refine E_code ?_ | refine E_blk_ne (by decide) ?_ | refine W_ret ?_ | refine R_code ?_ | refine R_blk ?_ | refine L_exit ?_ | refine L_ret ?_ | refine F_ret ?_ | refine F_out (by decide) ?_ | refine FW_ret ?_ | refine FW_out (by decide) ?_ | refine R_nil ?_
      | ((with_reducible apply W_condT); (case hb => exact rfl); (case hw => with_reducible rfl))
      | ((with_reducible apply W_condF); (case hb => exact rfl); (case hw => with_reducible rfl))
      | ((with_reducible apply W_condE); (case hb => exact rfl); (case e1 => exact sT); (case e2 => exact sT); all_goals (intro hb; first | (simp (disch := omega) only [go_sem] at hb; done) | (simp (disch := omega) only [go_sem] at hb; try omega) | try omega))
      | (with_reducible refine W_reg fun K hK => ?_)
      | (with_reducible refine W_drwR rfl mixed (by decide +kernel) fun K hK => ?_)
      | (with_reducible refine W_drw mixed (by decide +kernel) fun K hK => ?_)
      | ((with_reducible refine AO_nil (hK _ ?_)); clear hK K)
      | ((with_reducible apply D_admE); (case hop => exact rfl); (case ha => exact rfl); (case hna => exact rfl); (try case hl => exact tT); (case hg => exact gT); (case hy => exact rfl); (case ht => exact pT); (case hn => exact nT); (try case hc => exact rfl))
      | ((with_reducible apply D_adrE); (case ha => exact rfl); (case hna => exact rfl); (try case hl => exact tT); (case hg => exact gT); (case hs => simp (maxSteps := 2000000) (disch := omega) only [go_sem]; exact rfl); (case ht => exact pT); (case hn => exact nT); (try case hc => exact rfl))
      | ((with_reducible first | apply AO_mvE | apply V_mvE | apply D_mvE); (case hop => exact rfl); (case hg => exact gT); (try case hw => exact rfl); (try case hl => exact tT); (case hy => exact rfl); (case ht => exact pT); (case hn => exact nT); (try case hc => exact rfl))
      | ((with_reducible first | apply AO_stepE | apply V_stepE | apply D_stepE); (case hg => exact gT); (try case hw => exact rfl); (try case hl => exact tT); (case hs => simp (maxSteps := 2000000) (disch := omega) only [go_sem]; exact rfl); (case ht => exact pT); (case hn => exact nT); (try case hc => exact rfl))
      | ((with_reducible first | apply AO_skipE | apply V_skipE | apply D_skipE); (case hg => exact gF); (case ht => exact pT); (case hn => exact nT); (try case hc => exact rfl))
      | ((with_reducible first | apply V_end | apply D_end); (case hi => exact rfl); (try case hind => kernel_rfl); (case hn => exact nT); (with_reducible refine hK _ ?_); clear hK K)
      | ((with_reducible apply AO_nilE); (case hg => exact gT); (case ho => exact rfl); (case ht => simp only [go_sem]; exact rfl); (case hx => exact rfl); (case hn => exact nT); intro bn hnil; (try simp (disch := omega) only [go_sem] at hnil); dsimp only [putT, List.set_cons_succ, List.set_cons_zero])
      | ((fail_if_success ((with_reducible first | apply AO_stepE | apply V_stepE | apply D_stepE); (case hg => exact gT))); (fail_if_success ((with_reducible first | apply AO_skipE | apply V_skipE | apply D_skipE); (case hg => exact gF))); (with_reducible first | apply AO_split | apply V_split | apply D_split); (case hg => exact rfl); (case hd => exact rfl); (case hb => exact rfl); (case e1 => exact sT); (case e2 => exact sT); all_goals (intro hg; first | (simp (disch := omega) only [go_sem] at hg; try omega) | try omega))
    (with_reducible apply retQ_frz); (case h => simp (disch := omega) only [go_sem]; exact rfl); (case hq => exact rfl); (case hz => simp [Fz.int_iff, Fz.bool_iff, Fz.agg_iff, Fz.str_iff, rws_fz_iff, ri_fz_iff, Fz.tuple_iff, enc_fz_iff, enc_mem_iff, Fz.fp_iff, Fz.func_iff]); (case hf => repeat' first | exact .refl _ | (refine .tupleC ?_) | (refine .cons ?_ ?_) | exact .nil | exact .slR (.refl _) | exact .refE trivial (by simp only [go_sem]; exact rfl) (by first | rfl | (simp; done) | (simp [rws, Enc.enc]; done)) (by first | rfl | simp [rws_length]) | exact .refP trivial (by simp only [go_sem]; exact rfl) (by first | rfl | assumption | (simp [rws_length]; omega)) (by omega) (by first | assumption | (simp only [List.drop_zero]; assumption)) | (refine .aggC ?_))
  · have c1 := work_ok t g
    have b1 := work_le t g
    have c2 := add_ok st (work t g) hs (by omega)
    have h0 : (rws (t :: w))[0]? = some [.int .i64 t.iD, .int .i64 t.width, .int .i64 t.seats, .int .i64 t.since, .int .i64 t.until_] := rfl
    have h1 : (t :: w).length = w.length + 1 := rfl
    have h2 : fin ⟨st, t :: w⟩ g = (add st (work t g), true) := rfl
    rw [h2]
    generalize t :: w = W at *
    repeat' first
      | with_reducible first | refine W_seq ?_ | refine W_block ?_ | refine W_skip ?_ | refine N_code ?_ | refine N_blk ?_ | refine W_exit ?_ | refine E_blk ?_ | refine E_code ?_ | refine E_blk_ne (by decide) ?_ | refine W_ret ?_ | refine R_code ?_ | refine R_blk ?_ | refine L_exit ?_ | refine L_ret ?_ | refine F_ret ?_ | refine F_out (by decide) ?_ | refine FW_ret ?_ | refine FW_out (by decide) ?_ | refine R_nil ?_
      | ((with_reducible apply W_condT); (case hb => exact rfl); (case hw => with_reducible rfl))
      | ((with_reducible apply W_condF); (case hb => exact rfl); (case hw => with_reducible rfl))
      | ((with_reducible apply W_condE); (case hb => exact rfl); (case e1 => exact sT); (case e2 => exact sT); all_goals (intro hb; first | (simp (disch := omega) only [go_sem, h0] at hb; done) | (simp (disch := omega) only [go_sem, h0] at hb; try omega) | try omega))
      | (with_reducible refine W_reg fun K hK => ?_)
      | (with_reducible refine W_drwR rfl mixed (by decide +kernel) fun K hK => ?_)
      | (with_reducible refine W_drw mixed (by decide +kernel) fun K hK => ?_)
      | ((with_reducible refine AO_nil (hK _ ?_)); clear hK K)
      | ((with_reducible apply D_admE); (case hop => exact rfl); (case ha => exact rfl); (case hna => exact rfl); (try case hl => exact tT); (case hg => exact gT); (case hy => exact rfl); (case ht => exact pT); (case hn => exact nT); (try case hc => exact rfl))
      | ((with_reducible apply D_adrE); (case ha => exact rfl); (case hna => exact rfl); (try case hl => exact tT); (case hg => exact gT); (case hs => simp (maxSteps := 2000000) (disch := omega) only [go_sem, h0]; exact rfl); (case ht => exact pT); (case hn => exact nT); (try case hc => exact rfl))
      | ((with_reducible first | apply AO_mvE | apply V_mvE | apply D_mvE); (case hop => exact rfl); (case hg => exact gT); (try case hw => exact rfl); (try case hl => exact tT); (case hy => exact rfl); (case ht => exact pT); (case hn => exact nT); (try case hc => exact rfl))
      | ((with_reducible first | apply AO_stepE | apply V_stepE | apply D_stepE); (case hg => exact gT); (try case hw => exact rfl); (try case hl => exact tT); (case hs => simp (maxSteps := 2000000) (disch := omega) only [go_sem, h0]; exact rfl); (case ht => exact pT); (case hn => exact nT); (try case hc => exact rfl))
      | ((with_reducible first | apply AO_skipE | apply V_skipE | apply D_skipE); (case hg => exact gF); (case ht => exact pT); (case hn => exact nT); (try case hc => exact rfl))
      | ((with_reducible first | apply V_end | apply D_end); (case hi => exact rfl); (try case hind => kernel_rfl); (case hn => exact nT); (with_reducible refine hK _ ?_); clear hK K)
      | ((with_reducible first | apply AO_callE | apply V_callE | apply D_callE); (case hg => exact gT); (case ho => exact rfl); (case ht => exact rfl); (case hp' => first | exact c1 | exact c2); (case htm => exact pT); (case hn => exact nT); (try case hc => exact rfl))
      | ((with_reducible apply AO_nilE); (case hg => exact gT); (case ho => exact rfl); (case ht => simp only [go_sem]; exact rfl); (case hx => exact rfl); (case hn => exact nT); intro bn hnil; (try simp (disch := omega) only [go_sem, h0] at hnil); dsimp only [putT, List.set_cons_succ, List.set_cons_zero])
      | ((fail_if_success ((with_reducible first | apply AO_stepE | apply V_stepE | apply D_stepE); (case hg => exact gT))); (fail_if_success ((with_reducible first | apply AO_skipE | apply V_skipE | apply D_skipE); (case hg => exact gF))); (with_reducible first | apply AO_split | apply V_split | apply D_split); (case hg => exact rfl); (case hd => exact rfl); (case hb => exact rfl); (case e1 => exact sT); (case e2 => exact sT); all_goals (intro hg; first | (simp (disch := omega) only [go_sem, h0] at hg; try omega) | try omega))
    (with_reducible apply retQ_frz); (case h => simp (disch := omega) only [go_sem]; exact rfl); (case hq => exact rfl); (case hz => simp [Fz.int_iff, Fz.bool_iff, Fz.agg_iff, Fz.str_iff, rws_fz_iff, ri_fz_iff, Fz.tuple_iff, enc_fz_iff, enc_mem_iff, Fz.fp_iff, Fz.func_iff]); (case hf => repeat' first | exact .refl _ | (refine .tupleC ?_) | (refine .cons ?_ ?_) | exact .nil | exact .slR (.refl _) | exact .refE trivial (by simp only [go_sem]; exact rfl) (by first | rfl | (simp; done) | (simp [rws, Enc.enc]; done)) (by first | rfl | simp [rws_length]) | exact .refP trivial (by simp only [go_sem]; exact rfl) (by first | rfl | assumption | (simp [rws_length]; omega)) (by omega) (by first | assumption | (simp only [List.drop_zero]; assumption)) | (refine .aggC ?_))

end Go.Proofs.Ytdgjelfeclgolaa
