/-
  Lanes: the law LaneOrder; walked.
-/
import Derived.Test.YtdgjelfeclgolaaF5
namespace Go.Proofs.Ytdgjelfeclgolaa
open Go Go.AM
set_option maxHeartbeats 8000000
set_option maxRecDepth 8000
set_option linter.unusedSimpArgs false
set_option linter.unusedVariables false

theorem join_snoc (s : Int) (M : List TTicket) (i : Nat) (t : TTicket) (hs : 0 ≤ s) (hx : M[i]? = some t) : join ⟨s, M.take i⟩ 0 t = ⟨s, M.take (i + 1)⟩ := by
  rw [take_snoc hx, join]
  simp only []
  split
  · rw [show max s 0 = s by omega]
  · rfl

theorem take_next (s : Int) (M : List TTicket) (i : Nat) (t : TTicket) (g : Int) (hx : M[i]? = some t) (hs : 0 ≤ s) (hs2 : s ≤ 4611686018427000000) :
    take ⟨s, M.drop i⟩ g = (⟨s + min (max t.width 1) 16 * min (max g 1) 1000, M.drop (i + 1)⟩, t, true) := by
  have hi : i < M.length := by
    rcases Nat.lt_or_ge i M.length with h | h
    · exact h
    · rw [List.getElem?_eq_none h] at hx
      cases hx
  have e1 : M.drop i = t :: M.drop (i + 1) := by
    rw [List.drop_eq_getElem_cons hi]
    rw [List.getElem?_eq_getElem hi] at hx
    injection hx with hx
    rw [hx]
  have b := work_le t g
  have e2 : add s (work t g) = s + work t g := by unfold add cap; omega
  rw [take, e1]
  simp only []
  rw [e2]
  rfl

theorem take_end (s : Int) (M : List TTicket) (i : Nat) (g : Int) (hi : M.length ≤ i) : take ⟨s, M.drop i⟩ g = (⟨s, M.drop i⟩, zeroT, false) := by
  rw [List.drop_eq_nil_of_le hi]
  rfl

theorem order_ok (s : Int) (l : List TTicket) (g : Int) (hs : 0 ≤ s) (hl : l.length ≤ maxLen) : PCall Try.prog 3 [.int .u64 s, .sl (rws l) none, .int .i64 g] (· = .bool true) := by
  have c0 := awake_ok
  unfold maxLen at hl
  refine PCall_intro (c := Try.f3.body.getD .skip) Try.func3 rfl (by decide +kernel) (by simp [Fz.int_iff, Fz.bool_iff, Fz.agg_iff, Fz.str_iff, rws_fz_iff, ri_fz_iff, enc_mem_iff, Fz.fp_iff, Fz.func_iff]) (W_start ?_)
  simp only [Try.f3, go_sem]
  rcases Int.lt_or_le 2305843009213693952 s with h1 | h1
  · repeat' first
      | with_reducible first | refine W_seq ?_ | refine W_block ?_ | refine W_skip ?_ | refine N_code ?_ | refine N_blk ?_ | refine W_exit ?_ | refine E_blk ?_ | refine E_code ?_ | refine E_blk_ne (by decide) ?_ | refine W_ret ?_ | refine R_code ?_ | refine R_blk ?_ | refine L_exit ?_ | refine L_ret ?_ | refine F_ret ?_ | refine F_out (by decide) ?_ | refine FW_ret ?_ | refine FW_out (by decide) ?_ | refine R_nil ?_
      | ((with_reducible apply W_condT); (case hb => exact rfl); (case hw => with_reducible rfl))
      | ((with_reducible apply W_condF); (case hb => exact rfl); (case hw => with_reducible rfl))
      | ((with_reducible apply W_condE); (case hb => exact rfl); (case e1 => exact sT); (case e2 => exact sT); all_goals (intro hb; first | (simp (disch := omega) only [go_sem] at hb; done) | (simp (disch := omega) only [go_sem] at hb; try omega) | try omega))
      | (with_reducible refine W_reg fun K hK => ?_)
      | (with_reducible refine W_drwR rfl mixed (by decide +kernel) fun K hK => ?_)
      | (with_reducible refine W_drw mixed (by decide +kernel) fun K hK => ?_)
      | ((with_reducible refine AO_nil (hK _ ?_)); clear hK K)
      | ((with_reducible apply D_admE); (case hop => exact rfl); (case ha => exact rfl); (case hna => exact rfl); (try case hl => exact tT); (case hg => exact gT); (case hy => exact rfl); (case ht => exact pT); (case hn => exact nT); (try case hc => exact rfl))
      | ((with_reducible apply D_adrE); (case ha => exact rfl); (case hna => exact rfl); (try case hl => exact tT); (case hg => exact gT); (case hs => simp (maxSteps := 2000000) (disch := omega) only [go_sem]; exact rfl); (case ht => exact pT); (case hn => exact nT); (try case hc => exact rfl))
      | ((with_reducible first | apply AO_mvE | apply V_mvE | apply D_mvE); (case hop => exact rfl); (case hg => exact gT); (try case hw => exact rfl); (try case hl => exact tT); (case hy => exact rfl); (case ht => exact pT); (case hn => exact nT); (try case hc => exact rfl))
      | ((with_reducible first | apply AO_stepE | apply V_stepE | apply D_stepE); (case hg => exact gT); (try case hw => exact rfl); (try case hl => exact tT); (case hs => simp (maxSteps := 2000000) (disch := omega) only [go_sem]; exact rfl); (case ht => exact pT); (case hn => exact nT); (try case hc => exact rfl))
      | ((with_reducible first | apply AO_skipE | apply V_skipE | apply D_skipE); (case hg => exact gF); (case ht => exact pT); (case hn => exact nT); (try case hc => exact rfl))
      | ((with_reducible first | apply V_end | apply D_end); (case hi => exact rfl); (try case hind => kernel_rfl); (case hn => exact nT); (with_reducible refine hK _ ?_); clear hK K)
      | ((with_reducible first | apply AO_callE | apply V_callE | apply D_callE); (case hg => exact gT); (case ho => exact rfl); (case ht => exact rfl); (case hp' => first | exact c0); (case htm => exact pT); (case hn => exact nT); (try case hc => exact rfl))
      | ((with_reducible apply AO_nilE); (case hg => exact gT); (case ho => exact rfl); (case ht => simp only [go_sem]; exact rfl); (case hx => exact rfl); (case hn => exact nT); intro bn hnil; (try simp (disch := omega) only [go_sem] at hnil); dsimp only [putT, List.set_cons_succ, List.set_cons_zero])
      | ((fail_if_success ((with_reducible first | apply AO_stepE | apply V_stepE | apply D_stepE); (case hg => exact gT))); (fail_if_success ((with_reducible first | apply AO_skipE | apply V_skipE | apply D_skipE); (case hg => exact gF))); (with_reducible first | apply AO_split | apply V_split | apply D_split); (case hg => exact rfl); (case hd => exact rfl); (case hb => exact rfl); (case e1 => exact sT); (case e2 => exact sT); all_goals (intro hg; first | (simp (disch := omega) only [go_sem] at hg; try omega) | try omega))
    (with_reducible apply retQ_frz); (case h => simp (disch := omega) only [go_sem]; exact rfl); (case hq => exact rfl); (case hz => simp [Fz.int_iff, Fz.bool_iff, Fz.agg_iff, Fz.str_iff, rws_fz_iff, ri_fz_iff, Fz.tuple_iff, enc_fz_iff, enc_mem_iff, Fz.fp_iff, Fz.func_iff]); (case hf => repeat' first | exact .refl _ | (refine .tupleC ?_) | (refine .cons ?_ ?_) | exact .nil | exact .slR (.refl _) | exact .refE trivial (by simp only [go_sem]; exact rfl) (by first | rfl | (simp; done) | (simp [rws, Enc.enc]; done)) (by first | rfl | (simp [rws_length]; done) | (simp [rws_length]; omega)) | exact .refP trivial (by simp only [go_sem]; exact rfl) (by first | rfl | assumption | (simp [rws_length]; omega)) (by omega) (by first | assumption | (simp only [List.drop_zero]; assumption)) | (refine .aggC ?_))
  · obtain ⟨n, hn⟩ : ∃ n : Nat, min (l.length : Int) 100 = n := ⟨min l.length 100, by omega⟩
    have hn2 : n ≤ 100 := by omega
    have r1 : List.take n (rws l) = rws (l.take n) := rws_take _ _
    have hM : (l.take n).length = n := by simp; omega
    have hn3 : n ≤ l.length := by omega
    generalize l.take n = M at *
    repeat' first
      | with_reducible first | refine W_seq ?_ | refine W_block ?_ | refine W_skip ?_ | refine N_code ?_ | refine N_blk ?_ | refine W_exit ?_ | refine E_blk ?_ | refine E_code ?_ | refine E_blk_ne (by decide) ?_ | refine W_ret ?_ | refine R_code ?_ | refine R_blk ?_ | refine L_exit ?_ | refine L_ret ?_ | refine F_ret ?_ | refine F_out (by decide) ?_ | refine FW_ret ?_ | refine FW_out (by decide) ?_ | refine R_nil ?_
      | ((with_reducible apply W_condT); (case hb => exact rfl); (case hw => with_reducible rfl))
      | ((with_reducible apply W_condF); (case hb => exact rfl); (case hw => with_reducible rfl))
      | ((with_reducible apply W_condE); (case hb => exact rfl); (case e1 => exact sT); (case e2 => exact sT); all_goals (intro hb; first | (simp (disch := omega) only [go_sem, hn, r1] at hb; done) | (simp (disch := omega) only [go_sem, hn, r1] at hb; try omega) | try omega))
      | (with_reducible refine W_reg fun K hK => ?_)
      | (with_reducible refine W_drwR rfl mixed (by decide +kernel) fun K hK => ?_)
      | (with_reducible refine W_drw mixed (by decide +kernel) fun K hK => ?_)
      | ((with_reducible refine AO_nil (hK _ ?_)); clear hK K)
      | ((with_reducible apply D_admE); (case hop => exact rfl); (case ha => exact rfl); (case hna => exact rfl); (try case hl => exact tT); (case hg => exact gT); (case hy => exact rfl); (case ht => exact pT); (case hn => exact nT); (try case hc => exact rfl))
      | ((with_reducible apply D_adrE); (case ha => exact rfl); (case hna => exact rfl); (try case hl => exact tT); (case hg => exact gT); (case hs => simp (maxSteps := 2000000) (disch := omega) only [go_sem, hn, r1]; exact rfl); (case ht => exact pT); (case hn => exact nT); (try case hc => exact rfl))
      | ((with_reducible first | apply AO_mvE | apply V_mvE | apply D_mvE); (case hop => exact rfl); (case hg => exact gT); (try case hw => exact rfl); (try case hl => exact tT); (case hy => exact rfl); (case ht => exact pT); (case hn => exact nT); (try case hc => exact rfl))
      | ((with_reducible first | apply AO_stepE | apply V_stepE | apply D_stepE); (case hg => exact gT); (try case hw => exact rfl); (try case hl => exact tT); (case hs => simp (maxSteps := 2000000) (disch := omega) only [go_sem, hn, r1]; exact rfl); (case ht => exact pT); (case hn => exact nT); (try case hc => exact rfl))
      | ((with_reducible first | apply AO_skipE | apply V_skipE | apply D_skipE); (case hg => exact gF); (case ht => exact pT); (case hn => exact nT); (try case hc => exact rfl))
      | ((with_reducible first | apply V_end | apply D_end); (case hi => exact rfl); (try case hind => kernel_rfl); (case hn => exact nT); (with_reducible refine hK _ ?_); clear hK K)
      | ((with_reducible first | apply AO_callE | apply V_callE | apply D_callE); (case hg => exact gT); (case ho => exact rfl); (case ht => exact rfl); (case hp' => first | exact c0); (case htm => exact pT); (case hn => exact nT); (try case hc => exact rfl))
      | ((with_reducible apply AO_nilE); (case hg => exact gT); (case ho => exact rfl); (case ht => simp only [go_sem]; exact rfl); (case hx => exact rfl); (case hn => exact nT); intro bn hnil; (try simp (disch := omega) only [go_sem, hn, r1] at hnil); dsimp only [putT, List.set_cons_succ, List.set_cons_zero])
      | ((fail_if_success ((with_reducible first | apply AO_stepE | apply V_stepE | apply D_stepE); (case hg => exact gT))); (fail_if_success ((with_reducible first | apply AO_skipE | apply V_skipE | apply D_skipE); (case hg => exact gF))); (with_reducible first | apply AO_split | apply V_split | apply D_split); (case hg => exact rfl); (case hd => exact rfl); (case hb => exact rfl); (case e1 => exact sT); (case e2 => exact sT); all_goals (intro hg; first | (simp (disch := omega) only [go_sem, hn, r1] at hg; try omega) | try omega))
    refine W_foldM (fun (a : Nat × Option Nat) => [none, none, none, none, none, none, none, none, some (.int .i64 a.1), none, none, none, none, none, none, none, none, none, none, none, none, none, none, none, none, none, none, none, none, some .junk, some .junk, some .junk, some .junk, some .junk, some .junk, some .junk, some .junk, some .junk, some .junk, some .junk, some .junk]) (fun a => [(7, .arr 2 [[.int .u64 s, .sl (rws (M.take a.1)) a.2]])]) (fun a => a.1 ≤ n) (fun a => n - a.1) (0, some 0) (by simp) (by exact weak_mk wkD wkH wkN wkM (by omega)) ?_
    rintro ⟨i, lim⟩ hi
    simp only [] at hi
    simp only [msk_none, msk_some, msk_nil]
    rcases Nat.lt_or_ge i n with h4 | h4
    · obtain ⟨t, hx⟩ := some_of_lt (l := M) (i := i) (by omega)
      have c1 := join_ok ⟨s, M.take i⟩ 0 t (by simp; omega)
      rw [join_snoc s M i t hs hx] at c1
      repeat' first
        | with_reducible first | refine W_seq ?_ | refine W_block ?_ | refine W_skip ?_ | refine N_code ?_ | refine N_blk ?_ | refine W_exit ?_ | refine E_blk ?_ | refine E_code ?_ | refine E_blk_ne (by decide) ?_ | refine W_ret ?_ | refine R_code ?_ | refine R_blk ?_ | refine L_exit ?_ | refine L_ret ?_ | refine F_ret ?_ | refine F_out (by decide) ?_ | refine FW_ret ?_ | refine FW_out (by decide) ?_ | refine R_nil ?_
        | ((with_reducible apply W_condT); (case hb => exact rfl); (case hw => with_reducible rfl))
        | ((with_reducible apply W_condF); (case hb => exact rfl); (case hw => with_reducible rfl))
        | ((with_reducible apply W_condE); (case hb => exact rfl); (case e1 => exact sT); (case e2 => exact sT); all_goals (intro hb; first | (simp (disch := omega) only [go_sem, rws_get hx, hM] at hb; done) | (simp (disch := omega) only [go_sem, rws_get hx, hM] at hb; try omega) | try omega))
        | (with_reducible refine W_reg fun K hK => ?_)
        | (with_reducible refine W_drwR rfl mixed (by decide +kernel) fun K hK => ?_)
        | (with_reducible refine W_drw mixed (by decide +kernel) fun K hK => ?_)
        | ((with_reducible refine AO_nil (hK _ ?_)); clear hK K)
        | ((with_reducible apply D_admE); (case hop => exact rfl); (case ha => exact rfl); (case hna => exact rfl); (try case hl => exact tT); (case hg => exact gT); (case hy => exact rfl); (case ht => exact pT); (case hn => exact nT); (try case hc => exact rfl))
        | ((with_reducible apply D_adrE); (case ha => exact rfl); (case hna => exact rfl); (try case hl => exact tT); (case hg => exact gT); (case hs => simp (maxSteps := 2000000) (disch := omega) only [go_sem, rws_get hx, hM]; exact rfl); (case ht => exact pT); (case hn => exact nT); (try case hc => exact rfl))
        | ((with_reducible first | apply AO_mvE | apply V_mvE | apply D_mvE); (case hop => exact rfl); (case hg => exact gT); (try case hw => exact rfl); (try case hl => exact tT); (case hy => exact rfl); (case ht => exact pT); (case hn => exact nT); (try case hc => exact rfl))
        | ((with_reducible first | apply AO_stepE | apply V_stepE | apply D_stepE); (case hg => exact gT); (try case hw => exact rfl); (try case hl => exact tT); (case hs => simp (maxSteps := 2000000) (disch := omega) only [go_sem, rws_get hx, hM]; exact rfl); (case ht => exact pT); (case hn => exact nT); (try case hc => exact rfl))
        | ((with_reducible first | apply AO_skipE | apply V_skipE | apply D_skipE); (case hg => exact gF); (case ht => exact pT); (case hn => exact nT); (try case hc => exact rfl))
        | ((with_reducible first | apply V_end | apply D_end); (case hi => exact rfl); (try case hind => kernel_rfl); (case hn => exact nT); (with_reducible refine hK _ ?_); clear hK K)
        | ((with_reducible first | apply AO_callUE | apply D_callUE); (case hg => exact gT); (case ho => exact rfl); (case ht => exact rfl); (case hc => exact c1); (case hf => exact frT); (case htm => exact pT); (case hn => exact nT); (try case htc => exact rfl))
        | ((with_reducible apply AO_nilE); (case hg => exact gT); (case ho => exact rfl); (case ht => simp only [go_sem]; exact rfl); (case hx => exact rfl); (case hn => exact nT); intro bn hnil; (try simp (disch := omega) only [go_sem, rws_get hx, hM] at hnil); dsimp only [putT, List.set_cons_succ, List.set_cons_zero])
        | ((fail_if_success ((with_reducible first | apply AO_stepE | apply V_stepE | apply D_stepE); (case hg => exact gT))); (fail_if_success ((with_reducible first | apply AO_skipE | apply V_skipE | apply D_skipE); (case hg => exact gF))); (with_reducible first | apply AO_split | apply V_split | apply D_split); (case hg => exact rfl); (case hd => exact rfl); (case hb => exact rfl); (case e1 => exact sT); (case e2 => exact sT); all_goals (intro hg; first | (simp (disch := omega) only [go_sem, rws_get hx, hM] at hg; try omega) | try omega))
      exact L_next ⟨(i + 1, none), by simp; omega, by simp; omega, (by exact weak_mk wkD wkH wkN wkM (by omega))⟩
    · obtain rfl : i = n := by omega
      rw [List.take_of_length_le (by omega)]
      repeat' first
        | with_reducible first | refine W_seq ?_ | refine W_block ?_ | refine W_skip ?_ | refine N_code ?_ | refine N_blk ?_ | refine W_exit ?_ | refine E_blk ?_ | refine E_code ?_ | refine E_blk_ne (by decide) ?_ | refine W_ret ?_ | refine R_code ?_ | refine R_blk ?_ | refine L_exit ?_ | refine L_ret ?_ | refine F_ret ?_ | refine F_out (by decide) ?_ | refine FW_ret ?_ | refine FW_out (by decide) ?_ | refine R_nil ?_
        | ((with_reducible apply W_condT); (case hb => exact rfl); (case hw => with_reducible rfl))
        | ((with_reducible apply W_condF); (case hb => exact rfl); (case hw => with_reducible rfl))
        | ((with_reducible apply W_condE); (case hb => exact rfl); (case e1 => exact sT); (case e2 => exact sT); all_goals (intro hb; first | (simp (disch := omega) only [go_sem, hM] at hb; done) | (simp (disch := omega) only [go_sem, hM] at hb; try omega) | try omega))
        | (with_reducible refine W_reg fun K hK => ?_)
        | (with_reducible refine W_drwR rfl mixed (by decide +kernel) fun K hK => ?_)
        | (with_reducible refine W_drw mixed (by decide +kernel) fun K hK => ?_)
        | ((with_reducible refine AO_nil (hK _ ?_)); clear hK K)
        | ((with_reducible apply D_admE); (case hop => exact rfl); (case ha => exact rfl); (case hna => exact rfl); (try case hl => exact tT); (case hg => exact gT); (case hy => exact rfl); (case ht => exact pT); (case hn => exact nT); (try case hc => exact rfl))
        | ((with_reducible apply D_adrE); (case ha => exact rfl); (case hna => exact rfl); (try case hl => exact tT); (case hg => exact gT); (case hs => simp (maxSteps := 2000000) (disch := omega) only [go_sem, hM]; exact rfl); (case ht => exact pT); (case hn => exact nT); (try case hc => exact rfl))
        | ((with_reducible first | apply AO_mvE | apply V_mvE | apply D_mvE); (case hop => exact rfl); (case hg => exact gT); (try case hw => exact rfl); (try case hl => exact tT); (case hy => exact rfl); (case ht => exact pT); (case hn => exact nT); (try case hc => exact rfl))
        | ((with_reducible first | apply AO_stepE | apply V_stepE | apply D_stepE); (case hg => exact gT); (try case hw => exact rfl); (try case hl => exact tT); (case hs => simp (maxSteps := 2000000) (disch := omega) only [go_sem, hM]; exact rfl); (case ht => exact pT); (case hn => exact nT); (try case hc => exact rfl))
        | ((with_reducible first | apply AO_skipE | apply V_skipE | apply D_skipE); (case hg => exact gF); (case ht => exact pT); (case hn => exact nT); (try case hc => exact rfl))
        | ((with_reducible first | apply V_end | apply D_end); (case hi => exact rfl); (try case hind => kernel_rfl); (case hn => exact nT); (with_reducible refine hK _ ?_); clear hK K)
        | ((with_reducible apply AO_nilE); (case hg => exact gT); (case ho => exact rfl); (case ht => simp only [go_sem]; exact rfl); (case hx => exact rfl); (case hn => exact nT); intro bn hnil; (try simp (disch := omega) only [go_sem, hM] at hnil); dsimp only [putT, List.set_cons_succ, List.set_cons_zero])
        | ((fail_if_success ((with_reducible first | apply AO_stepE | apply V_stepE | apply D_stepE); (case hg => exact gT))); (fail_if_success ((with_reducible first | apply AO_skipE | apply V_skipE | apply D_skipE); (case hg => exact gF))); (with_reducible first | apply AO_split | apply V_split | apply D_split); (case hg => exact rfl); (case hd => exact rfl); (case hb => exact rfl); (case e1 => exact sT); (case e2 => exact sT); all_goals (intro hg; first | (simp (disch := omega) only [go_sem, hM] at hg; try omega) | try omega))
      refine W_foldM (fun (a : Nat × Int × Option Nat) => [none, none, none, none, none, none, some .junk, none, none, none, some (.int .i64 a.1), some .junk, some .junk, some .junk, some .junk, none, none, none, none, none, none, none, none, none, none, none, none, none, none, none, none, none, none, none, none, none, none, none, none, none, none, none, none, none, some .junk, some .junk, some .junk, some .junk, some .junk, some .junk, some .junk, some .junk, some .junk, some .junk, some .junk, some .junk, some .junk, some .junk, some .junk, some .junk, some .junk, some .junk, some .junk, some .junk, some .junk, some .junk, some .junk, some .junk, some .junk, some .junk, some .junk, some .junk, some .junk, some .junk, some .junk, some .junk, some .junk, some .junk, some .junk, some .junk, some .junk, some .junk, some .junk, some .junk, some .junk, some .junk, some .junk, some .junk, some .junk, some .junk, some .junk, some .junk, some .junk, some .junk, some .junk, some .junk, some .junk, some .junk, some .junk]) (fun a => [(7, .arr 2 [[.int .u64 a.2.1, .sl (rws (M.drop a.1)) a.2.2]])]) (fun a => a.1 ≤ i ∧ s ≤ a.2.1 ∧ a.2.1 ≤ s + 16000 * a.1) (fun a => i - a.1) (0, s, lim) ⟨by simp, by simp, by simp⟩ (by exact weak_mk wkD wkH wkN wkM (by omega)) ?_
      rintro ⟨j, S, lim2⟩ ⟨hj, hS1, hS2⟩
      simp only [] at hj hS1 hS2
      simp only [msk_none, msk_some, msk_nil]
      rcases Nat.lt_or_ge j i with h5 | h5
      · obtain ⟨t, hx⟩ := some_of_lt (l := M) (i := j) (by omega)
        have b1 : 1 ≤ min (max t.width 1) 16 * min (max g 1) 1000 ∧ min (max t.width 1) 16 * min (max g 1) 1000 ≤ 16000 := work_le t g
        have c1 := take_ok ⟨S, M.drop j⟩ g (by simp only []; omega) (by simp; omega)
        rw [take_next S M j t g hx (by omega) (by omega)] at c1
        have d1 : (M.drop (j + 1)).length = i - (j + 1) := by simp; omega
        simp only [laneV] at c1
        repeat' first
          | with_reducible first | refine W_seq ?_ | refine W_block ?_ | refine W_skip ?_ | refine N_code ?_ | refine N_blk ?_ | refine W_exit ?_ | refine E_blk ?_ | refine E_code ?_ | refine E_blk_ne (by decide) ?_ | refine W_ret ?_ | refine R_code ?_ | refine R_blk ?_ | refine L_exit ?_ | refine L_ret ?_ | refine F_ret ?_ | refine F_out (by decide) ?_ | refine FW_ret ?_ | refine FW_out (by decide) ?_ | refine R_nil ?_
          | ((with_reducible apply W_condT); (case hb => exact rfl); (case hw => with_reducible rfl))
          | ((with_reducible apply W_condF); (case hb => exact rfl); (case hw => with_reducible rfl))
          | ((with_reducible apply W_condE); (case hb => exact rfl); (case e1 => exact sT); (case e2 => exact sT); all_goals (intro hb; first | (simp (disch := omega) only [go_sem, rws_get hx, hM, d1] at hb; done) | (simp (disch := omega) only [go_sem, rws_get hx, hM, d1] at hb; try omega) | try omega))
          | (with_reducible refine W_reg fun K hK => ?_)
          | (with_reducible refine W_drwR rfl mixed (by decide +kernel) fun K hK => ?_)
          | (with_reducible refine W_drw mixed (by decide +kernel) fun K hK => ?_)
          | ((with_reducible refine AO_nil (hK _ ?_)); clear hK K)
          | ((with_reducible apply D_admE); (case hop => exact rfl); (case ha => exact rfl); (case hna => exact rfl); (try case hl => exact tT); (case hg => exact gT); (case hy => exact rfl); (case ht => exact pT); (case hn => exact nT); (try case hc => exact rfl))
          | ((with_reducible apply D_adrE); (case ha => exact rfl); (case hna => exact rfl); (try case hl => exact tT); (case hg => exact gT); (case hs => simp (maxSteps := 2000000) (disch := omega) only [go_sem, rws_get hx, hM, d1]; exact rfl); (case ht => exact pT); (case hn => exact nT); (try case hc => exact rfl))
          | ((with_reducible first | apply AO_mvE | apply V_mvE | apply D_mvE); (case hop => exact rfl); (case hg => exact gT); (try case hw => exact rfl); (try case hl => exact tT); (case hy => exact rfl); (case ht => exact pT); (case hn => exact nT); (try case hc => exact rfl))
          | ((with_reducible first | apply AO_stepE | apply V_stepE | apply D_stepE); (case hg => exact gT); (try case hw => exact rfl); (try case hl => exact tT); (case hs => simp (maxSteps := 2000000) (disch := omega) only [go_sem, rws_get hx, hM, d1]; exact rfl); (case ht => exact pT); (case hn => exact nT); (try case hc => exact rfl))
          | ((with_reducible first | apply AO_skipE | apply V_skipE | apply D_skipE); (case hg => exact gF); (case ht => exact pT); (case hn => exact nT); (try case hc => exact rfl))
          | ((with_reducible first | apply V_end | apply D_end); (case hi => exact rfl); (try case hind => kernel_rfl); (case hn => exact nT); (with_reducible refine hK _ ?_); clear hK K)
          | ((with_reducible first | apply AO_callUE | apply D_callUE); (case hg => exact gT); (case ho => exact rfl); (case ht => exact rfl); (case hc => exact c1); (case hf => exact frT); (case htm => exact pT); (case hn => exact nT); (try case htc => exact rfl))
          | ((with_reducible apply AO_nilE); (case hg => exact gT); (case ho => exact rfl); (case ht => simp only [go_sem]; exact rfl); (case hx => exact rfl); (case hn => exact nT); intro bn hnil; (try simp (disch := omega) only [go_sem, rws_get hx, hM, d1] at hnil); dsimp only [putT, List.set_cons_succ, List.set_cons_zero])
          | ((fail_if_success ((with_reducible first | apply AO_stepE | apply V_stepE | apply D_stepE); (case hg => exact gT))); (fail_if_success ((with_reducible first | apply AO_skipE | apply V_skipE | apply D_skipE); (case hg => exact gF))); (with_reducible first | apply AO_split | apply V_split | apply D_split); (case hg => exact rfl); (case hd => exact rfl); (case hb => exact rfl); (case e1 => exact sT); (case e2 => exact sT); all_goals (intro hg; first | (simp (disch := omega) only [go_sem, rws_get hx, hM, d1] at hg; try omega) | try omega))
        exact L_next ⟨(j + 1, S + min (max t.width 1) 16 * min (max g 1) 1000, none), by simp; omega, ⟨by simp; omega, by simp; omega, by simp; omega⟩, (by exact weak_mk wkD wkH wkN wkM (by omega))⟩
      · have c1 := take_ok ⟨S, M.drop j⟩ g (by simp only []; omega) (by simp; omega)
        rw [take_end S M j g (by omega)] at c1
        have c2 := seats_ok ⟨S, M.drop j⟩ (by simp; omega)
        have e2 : seats ⟨S, M.drop j⟩ = 0 := by
          rw [List.drop_eq_nil_of_le (by omega)]
          rfl
        rw [e2] at c2
        simp only [laneV] at c1
        repeat' first
          | with_reducible first | refine W_seq ?_ | refine W_block ?_ | refine W_skip ?_ | refine N_code ?_ | refine N_blk ?_ | refine W_exit ?_ | refine E_blk ?_ | refine E_code ?_ | refine E_blk_ne (by decide) ?_ | refine W_ret ?_ | refine R_code ?_ | refine R_blk ?_ | refine L_exit ?_ | refine L_ret ?_ | refine F_ret ?_ | refine F_out (by decide) ?_ | refine FW_ret ?_ | refine FW_out (by decide) ?_ | refine R_nil ?_
          | ((with_reducible apply W_condT); (case hb => exact rfl); (case hw => with_reducible rfl))
          | ((with_reducible apply W_condF); (case hb => exact rfl); (case hw => with_reducible rfl))
          | ((with_reducible apply W_condE); (case hb => exact rfl); (case e1 => exact sT); (case e2 => exact sT); all_goals (intro hb; first | (simp (disch := omega) only [go_sem] at hb; done) | (simp (disch := omega) only [go_sem] at hb; try omega) | try omega))
          | (with_reducible refine W_reg fun K hK => ?_)
          | (with_reducible refine W_drwR rfl mixed (by decide +kernel) fun K hK => ?_)
          | (with_reducible refine W_drw mixed (by decide +kernel) fun K hK => ?_)
          | ((with_reducible refine AO_nil (hK _ ?_)); clear hK K)
          | ((with_reducible apply D_admE); (case hop => exact rfl); (case ha => exact rfl); (case hna => exact rfl); (try case hl => exact tT); (case hg => exact gT); (case hy => exact rfl); (case ht => exact pT); (case hn => exact nT); (try case hc => exact rfl))
          | ((with_reducible apply D_adrE); (case ha => exact rfl); (case hna => exact rfl); (try case hl => exact tT); (case hg => exact gT); (case hs => simp (maxSteps := 2000000) (disch := omega) only [go_sem]; exact rfl); (case ht => exact pT); (case hn => exact nT); (try case hc => exact rfl))
          | ((with_reducible first | apply AO_mvE | apply V_mvE | apply D_mvE); (case hop => exact rfl); (case hg => exact gT); (try case hw => exact rfl); (try case hl => exact tT); (case hy => exact rfl); (case ht => exact pT); (case hn => exact nT); (try case hc => exact rfl))
          | ((with_reducible first | apply AO_stepE | apply V_stepE | apply D_stepE); (case hg => exact gT); (try case hw => exact rfl); (try case hl => exact tT); (case hs => simp (maxSteps := 2000000) (disch := omega) only [go_sem]; exact rfl); (case ht => exact pT); (case hn => exact nT); (try case hc => exact rfl))
          | ((with_reducible first | apply AO_skipE | apply V_skipE | apply D_skipE); (case hg => exact gF); (case ht => exact pT); (case hn => exact nT); (try case hc => exact rfl))
          | ((with_reducible first | apply V_end | apply D_end); (case hi => exact rfl); (try case hind => kernel_rfl); (case hn => exact nT); (with_reducible refine hK _ ?_); clear hK K)
          | ((with_reducible first | apply AO_callUE | apply D_callUE); (case hg => exact gT); (case ho => exact rfl); (case ht => exact rfl); (case hc => exact c1); (case hf => exact frT); (case htm => exact pT); (case hn => exact nT); (try case htc => exact rfl))
          | ((with_reducible first | apply AO_callUE | apply D_callUE); (case hg => exact gT); (case ho => exact rfl); (case ht => exact rfl); (case hc => exact c2); (case hf => exact frT); (case htm => exact pT); (case hn => exact nT); (try case htc => exact rfl))
          | ((with_reducible apply AO_nilE); (case hg => exact gT); (case ho => exact rfl); (case ht => simp only [go_sem]; exact rfl); (case hx => exact rfl); (case hn => exact nT); intro bn hnil; (try simp (disch := omega) only [go_sem] at hnil); dsimp only [putT, List.set_cons_succ, List.set_cons_zero])
          | ((fail_if_success ((with_reducible first | apply AO_stepE | apply V_stepE | apply D_stepE); (case hg => exact gT))); (fail_if_success ((with_reducible first | apply AO_skipE | apply V_skipE | apply D_skipE); (case hg => exact gF))); (with_reducible first | apply AO_split | apply V_split | apply D_split); (case hg => exact rfl); (case hd => exact rfl); (case hb => exact rfl); (case e1 => exact sT); (case e2 => exact sT); all_goals (intro hg; first | (simp (disch := omega) only [go_sem] at hg; try omega) | try omega))
        (with_reducible apply retQ_frz); (case h => simp (disch := omega) only [go_sem]; exact rfl); (case hq => exact rfl); (case hz => simp [Fz.int_iff, Fz.bool_iff, Fz.agg_iff, Fz.str_iff, rws_fz_iff, ri_fz_iff, Fz.tuple_iff, enc_fz_iff, enc_mem_iff, Fz.fp_iff, Fz.func_iff]); (case hf => repeat' first | exact .refl _ | (refine .tupleC ?_) | (refine .cons ?_ ?_) | exact .nil | exact .slR (.refl _) | exact .refE trivial (by simp only [go_sem]; exact rfl) (by first | rfl | (simp; done) | (simp [rws, Enc.enc]; done)) (by first | rfl | (simp [rws_length]; done) | (simp [rws_length]; omega)) | exact .refP trivial (by simp only [go_sem]; exact rfl) (by first | rfl | assumption | (simp [rws_length]; omega)) (by omega) (by first | assumption | (simp only [List.drop_zero]; assumption)) | (refine .aggC ?_))

end Go.Proofs.Ytdgjelfeclgolaa
