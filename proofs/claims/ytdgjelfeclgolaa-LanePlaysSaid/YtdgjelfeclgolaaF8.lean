/-
  Lanes: the law LanePlays; walked.
-/
import Derived.Test.YtdgjelfeclgolaaF5
namespace Go.Proofs.Ytdgjelfeclgolaa
open Go Go.AM
set_option maxHeartbeats 8000000
set_option maxRecDepth 8000
set_option linter.unusedSimpArgs false
set_option linter.unusedVariables false

section
variable {P : Program} {n0 : Nat} {all : Array Oper} {K : St → Prop}
/-- A row that only reads: a call whose arguments' spare room is forgotten. -/
theorem V_callUE {nx : Nat} {o : Oper} {rest : List Oper} {i i' : Nat} {tm tm' : List AVal} {hp : Heap} {c : Call} {g : FuncId} {args args' : List AVal} {r : AVal} (hg : guardA all tm o = some true) (ho : o.op = .call c) (ht : target tm c = some (g, args))
    (hc : PCall P g args' (· = r)) (hf : FrzL [] [] args args') (htm : putT tm o.dst r = tm') (hn : i + 1 = i') (h : DV P all nx K rest i' tm' hp) : DV P all nx K (o :: rest) i tm hp := fun tc htc =>
  D_callUE hg ho ht hc hf htm hn rfl (h _ (allOld_append htc fun j hj => by cases hj))
end

theorem join_more (l : TLane) (r : Int) (t : TTicket) (h : 0 ≤ l.start) : (join l r t).wait.length = l.wait.length + 1 ∧ 0 ≤ (join l r t).start := by
  refine ⟨by simp [join], ?_⟩
  simp only [join]
  split <;> omega

theorem take_more (l : TLane) (g : Int) (h : 0 ≤ l.start) : (take l g).1.wait.length ≤ l.wait.length ∧ 0 ≤ (take l g).1.start := by
  rcases hw : l.wait with _ | ⟨t, w⟩
  · rw [take, hw]
    exact ⟨by simp [hw], h⟩
  · have := work_le t g
    rw [take, hw]
    refine ⟨by simp, ?_⟩
    simp only [add, cap]
    omega

theorem drop_more (l : TLane) (id : Int) (h : 0 ≤ l.start) : (drop l id).1.wait.length ≤ l.wait.length ∧ 0 ≤ (drop l id).1.start := by
  rcases drop_cases l id with ⟨i, t, h1, h2, h3, h4, h5, h6⟩ | ⟨h1, h2, h3⟩
  · rw [h5]
    refine ⟨?_, h⟩
    simp only [List.length_eraseIdx]
    split <;> omega
  · rw [h2]
    exact ⟨Nat.le_refl _, h⟩

theorem plays_ok (l : List TOp) (hl : l.length ≤ maxLen) (hw : ∀ o, o ∈ l → o.wf) : PCall Try.prog 7 [.sl (rws l) none] (· = .bool true) := by
  have c0 := awake_ok
  unfold maxLen at hl
  refine PCall_intro (c := Try.f7.body.getD .skip) Try.func7 rfl (by decide +kernel) (by simp [Fz.int_iff, Fz.bool_iff, Fz.agg_iff, Fz.str_iff, rws_fz_iff, ri_fz_iff, enc_mem_iff, Fz.fp_iff, Fz.func_iff]) (W_start ?_)
  simp only [Try.f7, go_sem]
  repeat' first
    | with_reducible first | refine W_seq ?_ | refine W_block ?_ | refine W_skip ?_ | refine N_code ?_ | refine N_blk ?_ | refine W_exit ?_ | refine E_blk ?_ | refine E_code ?_ | refine E_blk_ne (by decide) ?_ | refine W_ret ?_ | refine R_code ?_ | refine R_blk ?_ | refine L_exit ?_ | refine L_ret ?_ | refine F_ret ?_ | refine F_out (by decide) ?_ | refine FW_ret ?_ | refine FW_out (by decide) ?_ | refine R_nil ?_
    | ((with_reducible apply W_condT); (case hb => exact rfl); (case hw => with_reducible rfl))
    | ((with_reducible apply W_condF); (case hb => exact rfl); (case hw => with_reducible rfl))
    | ((with_reducible apply W_condE); (case hb => exact rfl); (case e1 => exact sT); (case e2 => exact sT); all_goals (intro hb; first | (simp (disch := omega) only [go_sem] at hb; done) | (simp (disch := omega) only [go_sem] at hb; try omega) | try omega))
    | (with_reducible refine W_reg fun K hK => ?_)
    | (with_reducible refine W_drwR rfl mixed (by decide +kernel) fun K hK => ?_)
    | (with_reducible refine W_drw mixed (by decide +kernel) fun K hK => ?_)
    | ((with_reducible refine AO_nil (hK _ ?_)); clear hK K)
    | ((with_reducible apply D_admE); (case hop => exact rfl); (case ha => exact rfl); (case hna => exact rfl); (try case hl => exact tT); (case hg => exact gT); (case hy => exact rfl); (case ht => exact pT); (case hn => exact nT); (try case hc => exact rfl))
    | ((with_reducible apply D_adrE); (case ha => exact rfl); (case hna => exact rfl); (try case hl => exact tT); (case hg => exact gT); (case hs => simp (maxSteps := 2000000) (disch := omega) only [go_sem]; exact rfl); (case ht => exact pT); (case hn => exact nT); (try case hc => exact rfl))
    | ((with_reducible first | apply AO_mvE | apply V_mvE | apply D_mvE); (case hop => exact rfl); (case hg => exact gT); (try case hw => exact rfl); (try case hl => exact tT); (case hy => exact rfl); (case ht => exact pT); (case hn => exact nT); (try case hc => exact rfl))
    | ((with_reducible first | apply AO_stepE | apply V_stepE | apply D_stepE); (case hg => exact gT); (try case hw => exact rfl); (try case hl => exact tT); (case hs => simp (maxSteps := 2000000) (disch := omega) only [go_sem]; exact rfl); (case ht => exact pT); (case hn => exact nT); (try case hc => exact rfl))
    | ((with_reducible first | apply AO_skipE | apply V_skipE | apply D_skipE); (case hg => exact gF); (case ht => exact pT); (case hn => exact nT); (try case hc => exact rfl))
    | ((with_reducible first | apply V_end | apply D_end); (case hi => exact rfl); (try case hind => kernel_rfl); (case hn => exact nT); (with_reducible refine hK _ ?_); clear hK K)
    | ((with_reducible first | apply AO_callE | apply V_callE | apply D_callE); (case hg => exact gT); (case ho => exact rfl); (case ht => exact rfl); (case hp' => first | exact c0); (case htm => exact pT); (case hn => exact nT); (try case hc => exact rfl))
    | ((with_reducible apply AO_nilE); (case hg => exact gT); (case ho => exact rfl); (case ht => simp only [go_sem]; exact rfl); (case hx => exact rfl); (case hn => exact nT); intro bn hnil; (try simp (disch := omega) only [go_sem] at hnil); dsimp only [putT, List.set_cons_succ, List.set_cons_zero])
    | ((fail_if_success ((with_reducible first | apply AO_stepE | apply V_stepE | apply D_stepE); (case hg => exact gT))); (fail_if_success ((with_reducible first | apply AO_skipE | apply V_skipE | apply D_skipE); (case hg => exact gF))); (with_reducible first | apply AO_split | apply V_split | apply D_split); (case hg => exact rfl); (case hd => exact rfl); (case hb => exact rfl); (case e1 => exact sT); (case e2 => exact sT); all_goals (intro hg; first | (simp (disch := omega) only [go_sem] at hg; try omega) | try omega))
  refine W_foldM (fun (a : Nat × TLane × Option Nat × Option Nat) => [none, none, some .junk, none, none, some (.int .i64 a.1), some .junk, some .junk, some .junk, some .junk, some .junk, some .junk, some .junk, some .junk, some .junk, some .junk, some .junk, some .junk, some .junk, none, none, some .junk, some .junk, some .junk, some .junk, some .junk, some .junk, some .junk, some .junk, some .junk, some .junk, some .junk, some .junk, some .junk, some .junk, some .junk, some .junk, some .junk, some .junk, some .junk, some .junk, some .junk, some .junk, some .junk, some .junk, some .junk, some .junk, some .junk, some .junk, some .junk, some .junk, some .junk, some .junk, some .junk, some .junk, some .junk, some .junk, some .junk, some .junk, some .junk, some .junk, some .junk, some .junk, some .junk, some .junk, some .junk, some .junk, some .junk, some .junk, some .junk, some .junk, some .junk, some .junk, some .junk, some .junk, some .junk, some .junk, some .junk, some .junk, some .junk, some .junk, some .junk, some .junk, some .junk, some .junk, some .junk, some .junk, some .junk, some .junk, some .junk, some .junk, some .junk, some .junk, some .junk, some .junk, some .junk, some .junk, some .junk, some .junk, some .junk, some .junk, some .junk, some .junk, some .junk, some .junk, some .junk, some .junk, some .junk, some .junk, some .junk, some .junk, some .junk, some .junk, some .junk, some .junk, some .junk, some .junk, some .junk, some .junk, some .junk, some .junk, some .junk, some .junk, some .junk, some .junk, some .junk, some .junk, some .junk, some .junk, some .junk]) (fun a => [(4, .arr 2 [[.int .u64 a.2.1.start, .sl (rws a.2.1.wait) a.2.2.1]]), (3, .arr 2 [[.int .u64 a.2.1.start, .sl (rws a.2.1.wait) a.2.2.2]])])
    (fun a => a.1 ≤ l.length ∧ a.1 ≤ 200 ∧ a.2.1.wait.length ≤ a.1 ∧ 0 ≤ a.2.1.start) (fun a => l.length - a.1) (0, ⟨0, []⟩, some 0, some 0) ⟨by simp, by simp, by simp, by simp⟩ (by exact weak_mk wkD wkH wkN wkM (by omega)) ?_
  rintro ⟨i, L, d1, d2⟩ ⟨hi, h200, hL, hs⟩
  simp only [] at hi h200 hL hs
  simp only [msk_none, msk_some, msk_nil]
  rcases Nat.lt_or_ge i l.length with h4 | h4
  · rcases Nat.lt_or_ge i 200 with h5 | h5
    · obtain ⟨o, ho⟩ := some_of_lt h4
      have w := (hw o (List.mem_of_getElem? ho)).2.1.1
      have c1 := join_ok L o.r o.t (by omega)
      have c2 := rjoin_ok L o.r o.t (by omega)
      have m1 := join_more L o.r o.t hs
      have c3 := take_ok L o.n hs (by omega)
      have c4 := rtake_ok L o.n hs (by omega)
      have m2 := take_more L o.n hs
      have c5 := drop_ok L o.n (by omega)
      have c6 := rdrop_ok L o.n (by omega)
      have m3 := drop_more L o.n hs
      have c7 := late_ok L o.n (by omega)
      have c8 := rlate_ok L o.n (by omega)
      have m4 : (late L o.n).length ≤ L.wait.length := List.length_filter_le _ _
      have c9 := sameT_ok (late L o.n) (late L o.n) (by omega) (by omega)
      simp only [laneV, decide_true] at c3 c4 c5 c6 c9
      generalize join L o.r o.t = J at *
      generalize take L o.n = T at *
      obtain ⟨A, x, ok⟩ := T
      generalize drop L o.n = D at *
      obtain ⟨B, y, gone⟩ := D
      generalize late L o.n = W at *
      dsimp only at c3 c4 c5 c6 m2 m3
      have s1 := fun (X : TLane) (h : X.wait.length ≤ 4294967296) => same_ok X X h h
      have s2 := fun (X : TLane) (h : X.wait.length ≤ 4294967296) => seats_ok X h
      have s3 := fun (X : TLane) (h : X.wait.length ≤ 4294967296) => rseats_ok X h
      simp only [decide_true] at s1
      have a1 := s1 J (by omega)
      have a2 := s2 J (by omega)
      have a3 := s3 J (by omega)
      have b1 := s1 A (by omega)
      have b2 := s2 A (by omega)
      have b3 := s3 A (by omega)
      have e1 := s1 B (by omega)
      have e2 := s2 B (by omega)
      have e3 := s3 B (by omega)
      have f1 := s1 L (by omega)
      have f2 := s2 L (by omega)
      have f3 := s3 L (by omega)
      clear s1 s2 s3
      repeat' first
        | with_reducible first | refine W_seq ?_ | refine W_block ?_ | refine W_skip ?_ | refine N_code ?_ | refine N_blk ?_ | refine W_exit ?_ | refine E_blk ?_ | refine E_code ?_ | refine E_blk_ne (by decide) ?_ | refine W_ret ?_ | refine R_code ?_ | refine R_blk ?_ | refine L_exit ?_ | refine L_ret ?_ | refine F_ret ?_ | refine F_out (by decide) ?_ | refine FW_ret ?_ | refine FW_out (by decide) ?_ | refine R_nil ?_
        | ((with_reducible apply W_condT); (case hb => exact rfl); (case hw => with_reducible rfl))
        | ((with_reducible apply W_condF); (case hb => exact rfl); (case hw => with_reducible rfl))
        | ((with_reducible apply W_condE); (case hb => exact rfl); (case e1 => exact sT); (case e2 => exact sT); all_goals (intro hb; first | (simp (disch := omega) only [go_sem, rws_get ho] at hb; done) | (simp (disch := omega) only [go_sem, rws_get ho] at hb; try omega) | try omega))
        | (with_reducible refine W_reg fun K hK => ?_)
        | (with_reducible refine W_drwR rfl mixed (by decide +kernel) fun K hK => ?_)
        | (with_reducible refine W_drw mixed (by decide +kernel) fun K hK => ?_)
        | ((with_reducible refine AO_nil (hK _ ?_)); clear hK K)
        | ((with_reducible apply D_admE); (case hop => exact rfl); (case ha => exact rfl); (case hna => exact rfl); (try case hl => exact tT); (case hg => exact gT); (case hy => exact rfl); (case ht => exact pT); (case hn => exact nT); (try case hc => exact rfl))
        | ((with_reducible apply D_adrE); (case ha => exact rfl); (case hna => exact rfl); (try case hl => exact tT); (case hg => exact gT); (case hs => simp (maxSteps := 2000000) (disch := omega) only [go_sem, rws_get ho]; exact rfl); (case ht => exact pT); (case hn => exact nT); (try case hc => exact rfl))
        | ((with_reducible first | apply AO_mvE | apply V_mvE | apply D_mvE); (case hop => exact rfl); (case hg => exact gT); (try case hw => exact rfl); (try case hl => exact tT); (case hy => exact rfl); (case ht => exact pT); (case hn => exact nT); (try case hc => exact rfl))
        | ((with_reducible first | apply AO_stepE | apply V_stepE | apply D_stepE); (case hg => exact gT); (try case hw => exact rfl); (try case hl => exact tT); (case hs => simp (maxSteps := 2000000) (disch := omega) only [go_sem, rws_get ho]; exact rfl); (case ht => exact pT); (case hn => exact nT); (try case hc => exact rfl))
        | ((with_reducible first | apply AO_skipE | apply V_skipE | apply D_skipE); (case hg => exact gF); (case ht => exact pT); (case hn => exact nT); (try case hc => exact rfl))
        | ((with_reducible first | apply V_end | apply D_end); (case hi => exact rfl); (try case hind => kernel_rfl); (case hn => exact nT); (with_reducible refine hK _ ?_); clear hK K)
        | ((with_reducible first | apply AO_callUE | apply V_callUE | apply D_callUE); (case hg => exact gT); (case ho => exact rfl); (case ht => exact rfl); (case hc => exact c1); (case hf => exact frT); (case htm => exact pT); (case hn => exact nT); (try case htc => exact rfl))
        | ((with_reducible first | apply AO_callUE | apply V_callUE | apply D_callUE); (case hg => exact gT); (case ho => exact rfl); (case ht => exact rfl); (case hc => exact c2); (case hf => exact frT); (case htm => exact pT); (case hn => exact nT); (try case htc => exact rfl))
        | ((with_reducible first | apply AO_callUE | apply V_callUE | apply D_callUE); (case hg => exact gT); (case ho => exact rfl); (case ht => exact rfl); (case hc => exact c3); (case hf => exact frT); (case htm => exact pT); (case hn => exact nT); (try case htc => exact rfl))
        | ((with_reducible first | apply AO_callUE | apply V_callUE | apply D_callUE); (case hg => exact gT); (case ho => exact rfl); (case ht => exact rfl); (case hc => exact c4); (case hf => exact frT); (case htm => exact pT); (case hn => exact nT); (try case htc => exact rfl))
        | ((with_reducible first | apply AO_callUE | apply V_callUE | apply D_callUE); (case hg => exact gT); (case ho => exact rfl); (case ht => exact rfl); (case hc => exact c5); (case hf => exact frT); (case htm => exact pT); (case hn => exact nT); (try case htc => exact rfl))
        | ((with_reducible first | apply AO_callUE | apply V_callUE | apply D_callUE); (case hg => exact gT); (case ho => exact rfl); (case ht => exact rfl); (case hc => exact c6); (case hf => exact frT); (case htm => exact pT); (case hn => exact nT); (try case htc => exact rfl))
        | ((with_reducible first | apply AO_callUE | apply V_callUE | apply D_callUE); (case hg => exact gT); (case ho => exact rfl); (case ht => exact rfl); (case hc => exact c7); (case hf => exact frT); (case htm => exact pT); (case hn => exact nT); (try case htc => exact rfl))
        | ((with_reducible first | apply AO_callUE | apply V_callUE | apply D_callUE); (case hg => exact gT); (case ho => exact rfl); (case ht => exact rfl); (case hc => exact c8); (case hf => exact frT); (case htm => exact pT); (case hn => exact nT); (try case htc => exact rfl))
        | ((with_reducible first | apply AO_callUE | apply V_callUE | apply D_callUE); (case hg => exact gT); (case ho => exact rfl); (case ht => exact rfl); (case hc => exact c9); (case hf => exact frT); (case htm => exact pT); (case hn => exact nT); (try case htc => exact rfl))
        | ((with_reducible first | apply AO_callUE | apply V_callUE | apply D_callUE); (case hg => exact gT); (case ho => exact rfl); (case ht => exact rfl); (case hc => exact a1); (case hf => exact frT); (case htm => exact pT); (case hn => exact nT); (try case htc => exact rfl))
        | ((with_reducible first | apply AO_callUE | apply V_callUE | apply D_callUE); (case hg => exact gT); (case ho => exact rfl); (case ht => exact rfl); (case hc => exact a2); (case hf => exact frT); (case htm => exact pT); (case hn => exact nT); (try case htc => exact rfl))
        | ((with_reducible first | apply AO_callUE | apply V_callUE | apply D_callUE); (case hg => exact gT); (case ho => exact rfl); (case ht => exact rfl); (case hc => exact a3); (case hf => exact frT); (case htm => exact pT); (case hn => exact nT); (try case htc => exact rfl))
        | ((with_reducible first | apply AO_callUE | apply V_callUE | apply D_callUE); (case hg => exact gT); (case ho => exact rfl); (case ht => exact rfl); (case hc => exact b1); (case hf => exact frT); (case htm => exact pT); (case hn => exact nT); (try case htc => exact rfl))
        | ((with_reducible first | apply AO_callUE | apply V_callUE | apply D_callUE); (case hg => exact gT); (case ho => exact rfl); (case ht => exact rfl); (case hc => exact b2); (case hf => exact frT); (case htm => exact pT); (case hn => exact nT); (try case htc => exact rfl))
        | ((with_reducible first | apply AO_callUE | apply V_callUE | apply D_callUE); (case hg => exact gT); (case ho => exact rfl); (case ht => exact rfl); (case hc => exact b3); (case hf => exact frT); (case htm => exact pT); (case hn => exact nT); (try case htc => exact rfl))
        | ((with_reducible first | apply AO_callUE | apply V_callUE | apply D_callUE); (case hg => exact gT); (case ho => exact rfl); (case ht => exact rfl); (case hc => exact e1); (case hf => exact frT); (case htm => exact pT); (case hn => exact nT); (try case htc => exact rfl))
        | ((with_reducible first | apply AO_callUE | apply V_callUE | apply D_callUE); (case hg => exact gT); (case ho => exact rfl); (case ht => exact rfl); (case hc => exact e2); (case hf => exact frT); (case htm => exact pT); (case hn => exact nT); (try case htc => exact rfl))
        | ((with_reducible first | apply AO_callUE | apply V_callUE | apply D_callUE); (case hg => exact gT); (case ho => exact rfl); (case ht => exact rfl); (case hc => exact e3); (case hf => exact frT); (case htm => exact pT); (case hn => exact nT); (try case htc => exact rfl))
        | ((with_reducible first | apply AO_callUE | apply V_callUE | apply D_callUE); (case hg => exact gT); (case ho => exact rfl); (case ht => exact rfl); (case hc => exact f1); (case hf => exact frT); (case htm => exact pT); (case hn => exact nT); (try case htc => exact rfl))
        | ((with_reducible first | apply AO_callUE | apply V_callUE | apply D_callUE); (case hg => exact gT); (case ho => exact rfl); (case ht => exact rfl); (case hc => exact f2); (case hf => exact frT); (case htm => exact pT); (case hn => exact nT); (try case htc => exact rfl))
        | ((with_reducible first | apply AO_callUE | apply V_callUE | apply D_callUE); (case hg => exact gT); (case ho => exact rfl); (case ht => exact rfl); (case hc => exact f3); (case hf => exact frT); (case htm => exact pT); (case hn => exact nT); (try case htc => exact rfl))
        | ((with_reducible apply AO_nilE); (case hg => exact gT); (case ho => exact rfl); (case ht => simp only [go_sem]; exact rfl); (case hx => exact rfl); (case hn => exact nT); intro bn hnil; (try simp (disch := omega) only [go_sem, rws_get ho] at hnil); dsimp only [putT, List.set_cons_succ, List.set_cons_zero])
        | ((fail_if_success ((with_reducible first | apply AO_stepE | apply V_stepE | apply D_stepE); (case hg => exact gT))); (fail_if_success ((with_reducible first | apply AO_skipE | apply V_skipE | apply D_skipE); (case hg => exact gF))); (with_reducible first | apply AO_split | apply V_split | apply D_split); (case hg => exact rfl); (case hd => exact rfl); (case hb => exact rfl); (case e1 => exact sT); (case e2 => exact sT); all_goals (intro hg; first | (simp (disch := omega) only [go_sem, rws_get ho] at hg; try omega) | try omega))
      · exact L_next ⟨(i + 1, J, none, none), by simp; omega, ⟨by simp; omega, by simp; omega, by simp; omega, m1.2⟩, (by exact weak_mk wkD wkH wkN wkM (by omega))⟩
      · exact L_next ⟨(i + 1, A, none, none), by simp; omega, ⟨by simp; omega, by simp; omega, by simp; omega, m2.2⟩, (by exact weak_mk wkD wkH wkN wkM (by omega))⟩
      · exact L_next ⟨(i + 1, B, none, none), by simp; omega, ⟨by simp; omega, by simp; omega, by simp; omega, m3.2⟩, (by exact weak_mk wkD wkH wkN wkM (by omega))⟩
      · exact L_next ⟨(i + 1, L, d1, d2), by simp; omega, ⟨by simp; omega, by simp; omega, by simp; omega, hs⟩, (by exact weak_mk wkD wkH wkN wkM (by omega))⟩
    · repeat' first
        | with_reducible first | refine W_seq ?_ | refine W_block ?_ | refine W_skip ?_ | refine N_code ?_ | refine N_blk ?_ | refine W_exit ?_ | refine E_blk ?_ | refine E_code ?_ | refine E_blk_ne (by decide) ?_ | refine W_ret ?_ | refine R_code ?_ | refine R_blk ?_ | refine L_exit ?_ | refine L_ret ?_ | refine F_ret ?_ | refine F_out (by decide) ?_ | refine FW_ret ?_ | refine FW_out (by decide) ?_ | refine R_nil ?_
        | ((with_reducible apply W_condT); (case hb => exact rfl); (case hw => with_reducible rfl))
        | ((with_reducible apply W_condF); (case hb => exact rfl); (case hw => with_reducible rfl))
        | ((with_reducible apply W_condE); (case hb => exact rfl); (case e1 => exact sT); (case e2 => exact sT); all_goals (intro hb; first | (simp (disch := omega) only [go_sem] at hb; done) | (simp (disch := omega) only [go_sem] at hb; try omega) | try omega))
        | (with_reducible refine W_reg fun K hK => ?_)
        | (with_reducible refine W_drwR rfl mixed (by decide +kernel) fun K hK => ?_)
        | (with_reducible refine W_drw mixed (by decide +kernel) fun K hK => ?_)
        | ((with_reducible refine AO_nil (hK _ ?_)); clear hK K)
        | ((with_reducible apply D_admE); (case hop => exact rfl); (case ha => exact rfl); (case hna => exact rfl); (try case hl => exact tT); (case hg => exact gT); (case hy => exact rfl); (case ht => exact pT); (case hn => exact nT); (try case hc => exact rfl))
        | ((with_reducible apply D_adrE); (case ha => exact rfl); (case hna => exact rfl); (try case hl => exact tT); (case hg => exact gT); (case hs => simp (maxSteps := 2000000) (disch := omega) only [go_sem]; exact rfl); (case ht => exact pT); (case hn => exact nT); (try case hc => exact rfl))
        | ((with_reducible first | apply AO_mvE | apply V_mvE | apply D_mvE); (case hop => exact rfl); (case hg => exact gT); (try case hw => exact rfl); (try case hl => exact tT); (case hy => exact rfl); (case ht => exact pT); (case hn => exact nT); (try case hc => exact rfl))
        | ((with_reducible first | apply AO_stepE | apply V_stepE | apply D_stepE); (case hg => exact gT); (try case hw => exact rfl); (try case hl => exact tT); (case hs => simp (maxSteps := 2000000) (disch := omega) only [go_sem]; exact rfl); (case ht => exact pT); (case hn => exact nT); (try case hc => exact rfl))
        | ((with_reducible first | apply AO_skipE | apply V_skipE | apply D_skipE); (case hg => exact gF); (case ht => exact pT); (case hn => exact nT); (try case hc => exact rfl))
        | ((with_reducible first | apply V_end | apply D_end); (case hi => exact rfl); (try case hind => kernel_rfl); (case hn => exact nT); (with_reducible refine hK _ ?_); clear hK K)
        | ((with_reducible apply AO_nilE); (case hg => exact gT); (case ho => exact rfl); (case ht => simp only [go_sem]; exact rfl); (case hx => exact rfl); (case hn => exact nT); intro bn hnil; (try simp (disch := omega) only [go_sem] at hnil); dsimp only [putT, List.set_cons_succ, List.set_cons_zero])
        | ((fail_if_success ((with_reducible first | apply AO_stepE | apply V_stepE | apply D_stepE); (case hg => exact gT))); (fail_if_success ((with_reducible first | apply AO_skipE | apply V_skipE | apply D_skipE); (case hg => exact gF))); (with_reducible first | apply AO_split | apply V_split | apply D_split); (case hg => exact rfl); (case hd => exact rfl); (case hb => exact rfl); (case e1 => exact sT); (case e2 => exact sT); all_goals (intro hg; first | (simp (disch := omega) only [go_sem] at hg; try omega) | try omega))
      (with_reducible apply retQ_frz); (case h => simp (disch := omega) only [go_sem]; exact rfl); (case hq => exact rfl); (case hz => simp [Fz.int_iff, Fz.bool_iff, Fz.agg_iff, Fz.str_iff, rws_fz_iff, ri_fz_iff, Fz.tuple_iff, enc_fz_iff, enc_mem_iff, Fz.fp_iff, Fz.func_iff]); (case hf => repeat' first | exact .refl _ | (refine .tupleC ?_) | (refine .cons ?_ ?_) | exact .nil | exact .slR (.refl _) | exact .refE trivial (by simp only [go_sem]; exact rfl) (by first | rfl | (simp; done) | (simp [rws, Enc.enc]; done)) (by first | rfl | (simp [rws_length]; done) | (simp [rws_length]; omega)) | exact .refP trivial (by simp only [go_sem]; exact rfl) (by first | rfl | assumption | (simp [rws_length]; omega)) (by omega) (by first | assumption | (simp only [List.drop_zero]; assumption)) | (refine .aggC ?_))
  · repeat' first
      | with_reducible first | refine W_seq ?_ | refine W_block ?_ | refine W_skip ?_ | refine N_code ?_ | refine N_blk ?_ | refine W_exit ?_ | refine E_blk ?_ | refine E_code ?_ | refine E_blk_ne (by decide) ?_ | refine W_ret ?_ | refine R_code ?_ | refine R_blk ?_ | refine L_exit ?_ | refine L_ret ?_ | refine F_ret ?_ | refine F_out (by decide) ?_ | refine FW_ret ?_ | refine FW_out (by decide) ?_ | refine R_nil ?_
      | ((with_reducible apply W_condT); (case hb => exact rfl); (case hw => with_reducible rfl))
      | ((with_reducible apply W_condF); (case hb => exact rfl); (case hw => with_reducible rfl))
      | ((with_reducible apply W_condE); (case hb => exact rfl); (case e1 => exact sT); (case e2 => exact sT); all_goals (intro hb; first | (simp (disch := omega) only [go_sem] at hb; done) | (simp (disch := omega) only [go_sem] at hb; try omega) | try omega))
      | (with_reducible refine W_reg fun K hK => ?_)
      | (with_reducible refine W_drwR rfl mixed (by decide +kernel) fun K hK => ?_)
      | (with_reducible refine W_drw mixed (by decide +kernel) fun K hK => ?_)
      | ((with_reducible refine AO_nil (hK _ ?_)); clear hK K)
      | ((with_reducible apply D_admE); (case hop => exact rfl); (case ha => exact rfl); (case hna => exact rfl); (try case hl => exact tT); (case hg => exact gT); (case hy => exact rfl); (case ht => exact pT); (case hn => exact nT); (try case hc => exact rfl))
      | ((with_reducible apply D_adrE); (case ha => exact rfl); (case hna => exact rfl); (try case hl => exact tT); (case hg => exact gT); (case hs => simp (maxSteps := 2000000) (disch := omega) only [go_sem]; exact rfl); (case ht => exact pT); (case hn => exact nT); (try case hc => exact rfl))
      | ((with_reducible first | apply AO_mvE | apply V_mvE | apply D_mvE); (case hop => exact rfl); (case hg => exact gT); (try case hw => exact rfl); (try case hl => exact tT); (case hy => exact rfl); (case ht => exact pT); (case hn => exact nT); (try case hc => exact rfl))
      | ((with_reducible first | apply AO_stepE | apply V_stepE | apply D_stepE); (case hg => exact gT); (try case hw => exact rfl); (try case hl => exact tT); (case hs => simp (maxSteps := 2000000) (disch := omega) only [go_sem]; exact rfl); (case ht => exact pT); (case hn => exact nT); (try case hc => exact rfl))
      | ((with_reducible first | apply AO_skipE | apply V_skipE | apply D_skipE); (case hg => exact gF); (case ht => exact pT); (case hn => exact nT); (try case hc => exact rfl))
      | ((with_reducible first | apply V_end | apply D_end); (case hi => exact rfl); (try case hind => kernel_rfl); (case hn => exact nT); (with_reducible refine hK _ ?_); clear hK K)
      | ((with_reducible apply AO_nilE); (case hg => exact gT); (case ho => exact rfl); (case ht => simp only [go_sem]; exact rfl); (case hx => exact rfl); (case hn => exact nT); intro bn hnil; (try simp (disch := omega) only [go_sem] at hnil); dsimp only [putT, List.set_cons_succ, List.set_cons_zero])
      | ((fail_if_success ((with_reducible first | apply AO_stepE | apply V_stepE | apply D_stepE); (case hg => exact gT))); (fail_if_success ((with_reducible first | apply AO_skipE | apply V_skipE | apply D_skipE); (case hg => exact gF))); (with_reducible first | apply AO_split | apply V_split | apply D_split); (case hg => exact rfl); (case hd => exact rfl); (case hb => exact rfl); (case e1 => exact sT); (case e2 => exact sT); all_goals (intro hg; first | (simp (disch := omega) only [go_sem] at hg; try omega) | try omega))
    (with_reducible apply retQ_frz); (case h => simp (disch := omega) only [go_sem]; exact rfl); (case hq => exact rfl); (case hz => simp [Fz.int_iff, Fz.bool_iff, Fz.agg_iff, Fz.str_iff, rws_fz_iff, ri_fz_iff, Fz.tuple_iff, enc_fz_iff, enc_mem_iff, Fz.fp_iff, Fz.func_iff]); (case hf => repeat' first | exact .refl _ | (refine .tupleC ?_) | (refine .cons ?_ ?_) | exact .nil | exact .slR (.refl _) | exact .refE trivial (by simp only [go_sem]; exact rfl) (by first | rfl | (simp; done) | (simp [rws, Enc.enc]; done)) (by first | rfl | (simp [rws_length]; done) | (simp [rws_length]; omega)) | exact .refP trivial (by simp only [go_sem]; exact rfl) (by first | rfl | assumption | (simp [rws_length]; omega)) (by omega) (by first | assumption | (simp only [List.drop_zero]; assumption)) | (refine .aggC ?_))

end Go.Proofs.Ytdgjelfeclgolaa
