/-
  The law BookOnce, walked.
-/
import Derived.Test.YtenlmlhepcgpiaaF5
namespace Go.Proofs.Ytenlmlhepcgpiaa
open Go Go.AM
set_option maxHeartbeats 4000000
set_option maxRecDepth 8000
set_option linter.unusedSimpArgs false
set_option linter.unusedVariables false

/-- No ID stands twice, each phase is one. -/
structure Good (b : List TEntry) : Prop where
  dis : ∀ (i k : Nat) (x y : TEntry), k < i → b[i]? = some x → b[k]? = some y → ¬ x.iD = y.iD
  ph : ∀ x, x ∈ b → 1 ≤ x.phase ∧ x.phase ≤ 3

theorem Good.nil : Good [] := ⟨fun i k x y _ h => by simp at h, fun x h => by simp at h⟩

theorem cnt_all : ∀ {b : List TEntry}, (∀ x, x ∈ b → 1 ≤ x.phase ∧ x.phase ≤ 3) → cnt b 1 + cnt b 2 + cnt b 3 = b.length
  | [], _ => rfl
  | x :: b, h => by
    have ih := cnt_all (b := b) fun y hy => h y (by simp [hy])
    have hx := h x (by simp)
    unfold cnt at *
    simp only [List.countP_cons, List.length_cons]
    have : x.phase = 1 ∨ x.phase = 2 ∨ x.phase = 3 := by omega
    rcases this with e | e | e <;> simp [e] <;> omega

theorem Good.snoc {b : List TEntry} (g : Good b) {x : TEntry} (hx : ∀ y, y ∈ b → ¬ y.iD = x.iD) (hp : 1 ≤ x.phase ∧ x.phase ≤ 3) : Good (b ++ [x]) := by
  refine ⟨fun i k u v hk hu hv => ?_, fun y hy => ?_⟩
  · rcases Nat.lt_or_ge i b.length with h | h
    · rw [List.getElem?_append_left h] at hu
      rw [List.getElem?_append_left (by omega)] at hv
      exact g.dis i k u v hk hu hv
    · rw [List.getElem?_append_right h] at hu
      have h0 : i - b.length = 0 := by
        rcases Nat.eq_zero_or_pos (i - b.length) with h1 | h1
        · exact h1
        · rw [List.getElem?_eq_none (by simp; omega)] at hu; cases hu
      rw [h0] at hu
      simp at hu
      subst hu
      rw [List.getElem?_append_left (by omega)] at hv
      exact fun e => hx v (List.mem_of_getElem? hv) e.symm
  · rcases List.mem_append.1 hy with h | h
    · exact g.ph y h
    · simp at h; exact h ▸ hp

theorem Good.move {b : List TEntry} (g : Good b) {i : Nat} {x : TEntry} (hx : b[i]? = some x) {to : Int} (hp : 1 ≤ to ∧ to ≤ 3) : Good (b.set i ⟨x.iD, to, x.level⟩) := by
  obtain ⟨hi, hx'⟩ := List.getElem?_eq_some_iff.1 hx
  have key : ∀ (j : Nat) (u : TEntry), (b.set i ⟨x.iD, to, x.level⟩)[j]? = some u → ∃ v, b[j]? = some v ∧ v.iD = u.iD := fun j u hu => by
    by_cases e : i = j
    · subst e
      rw [List.getElem?_set_self hi] at hu
      injection hu with hu
      exact ⟨x, hx, by rw [← hu]⟩
    · rw [List.getElem?_set_ne e] at hu
      exact ⟨u, hu, rfl⟩
  refine ⟨fun j k u v hk hu hv => ?_, fun y hy => ?_⟩
  · obtain ⟨u', h1, h2⟩ := key j u hu
    obtain ⟨v', h3, h4⟩ := key k v hv
    rw [← h2, ← h4]
    exact g.dis j k u' v' hk h1 h3
  · rcases List.mem_or_eq_of_mem_set hy with h | h
    · exact g.ph y h
    · rw [h]; exact hp

theorem findE_of {b : List TEntry} {i : Nat} {x : TEntry} {id : Int} (hx : b[i]? = some x) (hid : x.iD = id) (hno : ∀ k y, k < i → b[k]? = some y → (y.iD == id) = false) : findE b id = (x, true) := by
  have e1 : findI b id = i := idx_at hx (by simpa using hid) hno
  rw [findE, e1, if_pos (by omega), Int.toNat_natCast, List.getD_eq_getElem?_getD, hx]
  rfl

theorem begin_cases (b : List TEntry) (x : TEntry) : (∃ e, beginB b x = ([], e) ∧ ¬ e = 0) ∨ (beginB b x = (b ++ [x], 0) ∧ findE b x.iD = (zeroE, false) ∧ findE (b ++ [x]) x.iD = (x, true) ∧ (∀ y, y ∈ b → ¬ y.iD = x.iD) ∧ 1 ≤ x.phase ∧ x.phase ≤ 3) := by
  by_cases h : x.iD < 0 ∨ x.iD > 999999999 ∨ ¬ (1 ≤ x.phase ∧ x.phase ≤ 3)
  · exact .inl ⟨1, by rw [beginB, if_pos h], by omega⟩
  · rcases find_cases b x.iD with ⟨i, z, h1, h2, h3, h4, h5, h6⟩ | ⟨h1, h2, h3⟩
    · exact .inl ⟨5, by rw [beginB, if_neg h, if_pos (by omega)], by omega⟩
    · refine .inr ⟨by rw [beginB, if_neg h, if_neg (by omega)], h2, findE_of (i := b.length) (by simp) rfl fun k y hk hy => ?_, h3, by omega⟩
      rw [List.getElem?_append_left hk] at hy
      simpa using h3 y (List.mem_of_getElem? hy)

theorem move_cases (b : List TEntry) (id to : Int) : (∃ e, moveB b id to = ([], e) ∧ ¬ e = 0) ∨ (∃ (i : Nat) (x : TEntry), moveB b id to = (b.set i ⟨x.iD, to, x.level⟩, 0) ∧ b[i]? = some x ∧ findE b id = (x, true) ∧ findE (b.set i ⟨x.iD, to, x.level⟩) id = (⟨x.iD, to, x.level⟩, true) ∧ 1 ≤ to ∧ to ≤ 3 ∧ x.phase < to) := by
  rcases find_cases b id with ⟨i, x, h1, h2, h3, h4, h5, h6⟩ | ⟨h1, h2, h3⟩
  · by_cases h : to < 1 ∨ to > 3 ∨ to ≤ x.phase
    · exact .inl ⟨9, by rw [moveB, if_neg (by omega), h5, if_pos h], by omega⟩
    · refine .inr ⟨i, x, by rw [moveB, if_neg (by omega), h5, if_neg h, h1, Int.toNat_natCast], h3, h5, findE_of (i := i) (by rw [List.getElem?_set_self h2]) h4 fun k y hk hy => ?_, by omega⟩
      rw [List.getElem?_set_ne (by omega)] at hy
      exact h6 k y hk hy
  · exact .inl ⟨6, by rw [moveB, if_pos (by omega)], by omega⟩

theorem bookOnce_ok (l : List TOp) (hl : l.length ≤ maxLen) : PCall Try.prog 5 [.sl (rws l) none] (· = .bool true) := by
  unfold maxLen at hl
  refine PCall_intro (c := Try.f5.body.getD .skip) Try.func5 rfl (by decide +kernel) (by simp [Fz.int_iff, Fz.bool_iff, Fz.agg_iff, Fz.str_iff, rws_fz_iff, ri_fz_iff, enc_mem_iff, Fz.fp_iff, Fz.func_iff]) (W_start ?_)
  simp only [Try.f5, go_sem]
  repeat' first
    | with_reducible first | refine W_seq ?_ | refine W_block ?_ | refine W_skip ?_ | refine N_code ?_ | refine N_blk ?_ | refine W_exit ?_ | refine E_blk ?_ | refine E_code ?_ | refine E_blk_ne (by decide) ?_ | refine W_ret ?_ | refine R_code ?_ | refine R_blk ?_ | refine L_exit ?_ | refine L_ret ?_ | refine F_ret ?_ | refine F_out (by decide) ?_ | refine FW_ret ?_ | refine FW_out (by decide) ?_ | refine R_nil ?_
    | ((with_reducible apply W_condT); (case hb => exact rfl); (case hw => with_reducible rfl))
    | ((with_reducible apply W_condF); (case hb => exact rfl); (case hw => with_reducible rfl))
    | ((with_reducible apply W_condE); (case hb => exact rfl); (case e1 => exact sT); (case e2 => exact sT); all_goals (intro hb; first | (simp (disch := omega) only [go_sem] at hb; done) | (simp (disch := omega) only [go_sem] at hb; try omega) | try omega))
    | (with_reducible refine W_reg fun K hK => ?_)
    | (with_reducible refine W_drwR rfl mixed (by decide +kernel) fun K hK => ?_)
    | (with_reducible refine W_drw mixed (by decide +kernel) fun K hK => ?_)
    | ((with_reducible refine AO_nil (hK _ ?_)); clear hK K)
    | ((with_reducible apply D_admE); (case hop => exact rfl); (case ha => exact rfl); (case hna => exact rfl); (try case hl => exact tT); (case hg => exact gT); (case hy => exact rfl); (case ht => exact pT); (case hn => exact nT); (try case hc => exact rfl))
    | ((with_reducible apply D_adrE); (case ha => exact rfl); (case hna => exact rfl); (try case hl => exact tT); (case hg => exact gT); (case hs => simp (maxSteps := 2000000) (disch := omega) only [go_sem]; exact rfl); (case ht => exact pT); (case hn => exact nT); (try case hc => exact rfl))
    | ((with_reducible first | apply AO_mvE | apply V_mvE | apply D_mvE); (case hop => exact rfl); (case hg => exact gT); (try case hw => exact rfl); (try case hl => exact tT); (case hy => exact rfl); (case ht => exact pT); (case hn => exact nT); (try case hc => exact rfl))
    | ((with_reducible first | apply AO_stepE | apply V_stepE | apply D_stepE); (case hg => exact gT); (try case hw => exact rfl); (try case hl => exact tT); (case hs => simp (maxSteps := 2000000) (disch := omega) only [go_sem]; exact rfl); (case ht => exact pT); (case hn => exact nT); (try case hc => exact rfl))
    | ((with_reducible first | apply AO_skipE | apply V_skipE | apply D_skipE); (case hg => exact gF); (case ht => exact pT); (case hn => exact nT); (try case hc => exact rfl))
    | ((with_reducible first | apply V_end | apply D_end); (case hi => exact rfl); (try case hind => kernel_rfl); (case hn => exact nT); (with_reducible refine hK _ ?_); clear hK K)
    | ((with_reducible first | apply AO_callE | apply V_callE | apply D_callE); (case hg => exact gT); (case ho => exact rfl); (case ht => exact rfl); (case hp' => first | exact awake_ok); (case htm => exact pT); (case hn => exact nT); (try case hc => exact rfl))
    | ((with_reducible apply AO_nilE); (case hg => exact gT); (case ho => exact rfl); (case ht => simp only [go_sem]; exact rfl); (case hx => exact rfl); (case hn => exact nT); intro bn hnil; (try simp (disch := omega) only [go_sem] at hnil); dsimp only [putT, List.set_cons_succ, List.set_cons_zero])
    | ((fail_if_success ((with_reducible first | apply AO_stepE | apply V_stepE | apply D_stepE); (case hg => exact gT))); (fail_if_success ((with_reducible first | apply AO_skipE | apply V_skipE | apply D_skipE); (case hg => exact gF))); (with_reducible first | apply AO_split | apply V_split | apply D_split); (case hg => exact rfl); (case hd => exact rfl); (case hb => exact rfl); (case e1 => exact sT); (case e2 => exact sT); all_goals (intro hg; first | (simp (disch := omega) only [go_sem] at hg; try omega) | try omega))
  (apply W_forgetT 3 (([] : List TEntry)); (case ht => exact rfl); (case e => rfl); (case e1 => exact sT))
  refine W_foldK (fun (a : Nat × List TEntry) => [none, none, some .junk, some (.sl (rws a.2) none), some (.int .i64 a.1), some .junk, some .junk, some .junk, some .junk, some .junk, some .junk, some .junk, some .junk, some .junk, some .junk, none, none, none, none, some .junk, some .junk, some .junk, some .junk, some .junk, some .junk, some .junk, some .junk, some .junk, some .junk, some .junk, some .junk, some .junk, some .junk, some .junk, some .junk, some .junk, some .junk, some .junk, some .junk, some .junk, some .junk, some .junk, some .junk, some .junk, some .junk, some .junk, some .junk, some .junk, some .junk, some .junk, some .junk, some .junk, some .junk, some .junk, some .junk, some .junk, some .junk, some .junk, some .junk, some .junk, some .junk, some .junk, some .junk, some .junk, some .junk, some .junk, some .junk, some .junk, some .junk, some .junk, some .junk, some .junk, some .junk, some .junk, some .junk, some .junk, some .junk, some .junk, some .junk, some .junk, some .junk, some .junk, some .junk, some .junk, some .junk, some .junk, some .junk, some .junk, some .junk, some .junk, some .junk, some .junk, some .junk, some .junk, some .junk, some .junk, some .junk, some .junk, some .junk, some .junk, some .junk, some .junk, some .junk, some .junk, some .junk, some .junk, some .junk, some .junk, some .junk, some .junk, some .junk, some .junk, some .junk, some .junk, some .junk, some .junk, some .junk, some .junk, some .junk, some .junk, some .junk, some .junk, some .junk, some .junk, some .junk, some .junk, some .junk, some .junk, some .junk, some .junk, some .junk, some .junk, some .junk, some .junk, some .junk, some .junk, some .junk, some .junk]) (fun a => a.1 ≤ l.length ∧ a.1 ≤ 200 ∧ a.2.length ≤ a.1 ∧ Good a.2) (fun a => 200 - a.1) (0, []) ⟨by simp, by simp, by simp, Good.nil⟩ (by exact weak_mk wkD wkH wkN wkM (by omega)) ?_
  rintro ⟨i, b⟩ ⟨hi, hi2, hbl, gb⟩
  simp only [] at hi hi2 hbl gb
  simp only [msk_none, msk_some, msk_nil]
  by_cases h4' : i < l.length ∧ i < 200
  · obtain ⟨h4, h5⟩ := h4'
    · obtain ⟨o, ho⟩ := some_of_lt h4
      have c1 := find_ok b o.iD (by unfold maxLen; omega)
      rcases Bool.eq_false_or_eq_true o.begin with hB | hB
      · have c2 := begin_ok b ⟨o.iD, o.phase, ⟨#[]⟩⟩ (by omega)
        rcases begin_cases b ⟨o.iD, o.phase, ⟨#[]⟩⟩ with ⟨e, h1, h2⟩ | ⟨h1, h2, h3, h6, h7⟩
        · rw [h1] at c2
          repeat' first
            | with_reducible first | refine W_seq ?_ | refine W_block ?_ | refine W_skip ?_ | refine N_code ?_ | refine N_blk ?_ | refine W_exit ?_ | refine E_blk ?_ | refine E_code ?_ | refine E_blk_ne (by decide) ?_ | refine W_ret ?_ | refine R_code ?_ | refine R_blk ?_ | refine L_exit ?_ | refine L_ret ?_ | refine F_ret ?_ | refine F_out (by decide) ?_ | refine FW_ret ?_ | refine FW_out (by decide) ?_ | refine R_nil ?_
            | ((with_reducible apply W_condT); (case hb => exact rfl); (case hw => with_reducible rfl))
            | ((with_reducible apply W_condF); (case hb => exact rfl); (case hw => with_reducible rfl))
            | ((with_reducible apply W_condE); (case hb => exact rfl); (case e1 => exact sT); (case e2 => exact sT); all_goals (intro hb; first | (simp (disch := omega) only [go_sem, rws_get ho, hB] at hb; done) | (simp (disch := omega) only [go_sem, rws_get ho, hB] at hb; try omega) | try omega))
            | (with_reducible refine W_reg fun K hK => ?_)
            | (with_reducible refine W_drwR rfl mixed (by decide +kernel) fun K hK => ?_)
            | (with_reducible refine W_drw mixed (by decide +kernel) fun K hK => ?_)
            | ((with_reducible refine AO_nil (hK _ ?_)); clear hK K)
            | ((with_reducible apply D_admE); (case hop => exact rfl); (case ha => exact rfl); (case hna => exact rfl); (try case hl => exact tT); (case hg => exact gT); (case hy => exact rfl); (case ht => exact pT); (case hn => exact nT); (try case hc => exact rfl))
            | ((with_reducible apply D_adrE); (case ha => exact rfl); (case hna => exact rfl); (try case hl => exact tT); (case hg => exact gT); (case hs => simp (maxSteps := 2000000) (disch := omega) only [go_sem, rws_get ho, hB]; exact rfl); (case ht => exact pT); (case hn => exact nT); (try case hc => exact rfl))
            | ((with_reducible first | apply AO_mvE | apply V_mvE | apply D_mvE); (case hop => exact rfl); (case hg => exact gT); (try case hw => exact rfl); (try case hl => exact tT); (case hy => exact rfl); (case ht => exact pT); (case hn => exact nT); (try case hc => exact rfl))
            | ((with_reducible first | apply AO_stepE | apply V_stepE | apply D_stepE); (case hg => exact gT); (try case hw => exact rfl); (try case hl => exact tT); (case hs => simp (maxSteps := 2000000) (disch := omega) only [go_sem, rws_get ho, hB]; exact rfl); (case ht => exact pT); (case hn => exact nT); (try case hc => exact rfl))
            | ((with_reducible first | apply AO_skipE | apply V_skipE | apply D_skipE); (case hg => exact gF); (case ht => exact pT); (case hn => exact nT); (try case hc => exact rfl))
            | ((with_reducible first | apply V_end | apply D_end); (case hi => exact rfl); (try case hind => kernel_rfl); (case hn => exact nT); (with_reducible refine hK _ ?_); clear hK K)
            | ((with_reducible first | apply AO_callE | apply V_callE | apply D_callE); (case hg => exact gT); (case ho => exact rfl); (case ht => exact rfl); (case hp' => first | exact c1 | exact c2); (case htm => exact pT); (case hn => exact nT); (try case hc => exact rfl))
            | ((with_reducible apply AO_nilE); (case hg => exact gT); (case ho => exact rfl); (case ht => simp only [go_sem]; exact rfl); (case hx => exact rfl); (case hn => exact nT); intro bn hnil; (try simp (disch := omega) only [go_sem, rws_get ho, hB] at hnil); dsimp only [putT, List.set_cons_succ, List.set_cons_zero])
            | ((fail_if_success ((with_reducible first | apply AO_stepE | apply V_stepE | apply D_stepE); (case hg => exact gT))); (fail_if_success ((with_reducible first | apply AO_skipE | apply V_skipE | apply D_skipE); (case hg => exact gF))); (with_reducible first | apply AO_split | apply V_split | apply D_split); (case hg => exact rfl); (case hd => exact rfl); (case hb => exact rfl); (case e1 => exact sT); (case e2 => exact sT); all_goals (intro hg; first | (simp (disch := omega) only [go_sem, rws_get ho, hB] at hg; try omega) | try omega))
          exact L_next ⟨(i + 1, b), by simp; omega, ⟨by simp; omega, by simp; omega, by simp; omega, gb⟩, (by exact weak_mk wkD wkH wkN wkM (by omega))⟩
        · rw [h1] at c2
          simp only [] at h2 h3 h6 h7
          have zp : zeroE.phase = 0 := rfl
          rw [h2] at c1
          have c3 := find_ok (b ++ [⟨o.iD, o.phase, ⟨#[]⟩⟩]) o.iD (by unfold maxLen; simp; omega)
          have c4 := count_ok (b ++ [⟨o.iD, o.phase, ⟨#[]⟩⟩]) (by simp; omega)
          rw [h3] at c3
          have g2 := gb.snoc (x := ⟨o.iD, o.phase, ⟨#[]⟩⟩) h6 h7
          have e1 := cnt_all g2.ph
          have e2 : (b ++ [(⟨o.iD, o.phase, ⟨#[]⟩⟩ : TEntry)]).length = b.length + 1 := by simp
          generalize b ++ [(⟨o.iD, o.phase, ⟨#[]⟩⟩ : TEntry)] = c at *
          have n1 : 0 ≤ cnt c 1 := by unfold cnt; omega
          have n2 : 0 ≤ cnt c 2 := by unfold cnt; omega
          have n3 : 0 ≤ cnt c 3 := by unfold cnt; omega
          repeat' first
            | with_reducible first | refine W_seq ?_ | refine W_block ?_ | refine W_skip ?_ | refine N_code ?_ | refine N_blk ?_ | refine W_exit ?_ | refine E_blk ?_ | refine E_code ?_ | refine E_blk_ne (by decide) ?_ | refine W_ret ?_ | refine R_code ?_ | refine R_blk ?_ | refine L_exit ?_ | refine L_ret ?_ | refine F_ret ?_ | refine F_out (by decide) ?_ | refine FW_ret ?_ | refine FW_out (by decide) ?_ | refine R_nil ?_
            | ((with_reducible apply W_condT); (case hb => exact rfl); (case hw => with_reducible rfl))
            | ((with_reducible apply W_condF); (case hb => exact rfl); (case hw => with_reducible rfl))
            | ((with_reducible apply W_condE); (case hb => exact rfl); (case e1 => exact sT); (case e2 => exact sT); all_goals (intro hb; first | (simp (disch := omega) only [go_sem, rws_get ho, hB] at hb; done) | (simp (disch := omega) only [go_sem, rws_get ho, hB] at hb; try omega) | try omega))
            | (with_reducible refine W_reg fun K hK => ?_)
            | (with_reducible refine W_drwR rfl mixed (by decide +kernel) fun K hK => ?_)
            | (with_reducible refine W_drw mixed (by decide +kernel) fun K hK => ?_)
            | ((with_reducible refine AO_nil (hK _ ?_)); clear hK K)
            | ((with_reducible apply D_admE); (case hop => exact rfl); (case ha => exact rfl); (case hna => exact rfl); (try case hl => exact tT); (case hg => exact gT); (case hy => exact rfl); (case ht => exact pT); (case hn => exact nT); (try case hc => exact rfl))
            | ((with_reducible apply D_adrE); (case ha => exact rfl); (case hna => exact rfl); (try case hl => exact tT); (case hg => exact gT); (case hs => simp (maxSteps := 2000000) (disch := omega) only [go_sem, rws_get ho, hB]; exact rfl); (case ht => exact pT); (case hn => exact nT); (try case hc => exact rfl))
            | ((with_reducible first | apply AO_mvE | apply V_mvE | apply D_mvE); (case hop => exact rfl); (case hg => exact gT); (try case hw => exact rfl); (try case hl => exact tT); (case hy => exact rfl); (case ht => exact pT); (case hn => exact nT); (try case hc => exact rfl))
            | ((with_reducible first | apply AO_stepE | apply V_stepE | apply D_stepE); (case hg => exact gT); (try case hw => exact rfl); (try case hl => exact tT); (case hs => simp (maxSteps := 2000000) (disch := omega) only [go_sem, rws_get ho, hB]; exact rfl); (case ht => exact pT); (case hn => exact nT); (try case hc => exact rfl))
            | ((with_reducible first | apply AO_skipE | apply V_skipE | apply D_skipE); (case hg => exact gF); (case ht => exact pT); (case hn => exact nT); (try case hc => exact rfl))
            | ((with_reducible first | apply V_end | apply D_end); (case hi => exact rfl); (try case hind => kernel_rfl); (case hn => exact nT); (with_reducible refine hK _ ?_); clear hK K)
            | ((with_reducible first | apply AO_callE | apply V_callE | apply D_callE); (case hg => exact gT); (case ho => exact rfl); (case ht => exact rfl); (case hp' => first | exact c1 | exact c2 | exact c3 | exact c4); (case htm => exact pT); (case hn => exact nT); (try case hc => exact rfl))
            | ((with_reducible apply AO_nilE); (case hg => exact gT); (case ho => exact rfl); (case ht => simp only [go_sem]; exact rfl); (case hx => exact rfl); (case hn => exact nT); intro bn hnil; (try simp (disch := omega) only [go_sem, rws_get ho, hB] at hnil); dsimp only [putT, List.set_cons_succ, List.set_cons_zero])
            | ((fail_if_success ((with_reducible first | apply AO_stepE | apply V_stepE | apply D_stepE); (case hg => exact gT))); (fail_if_success ((with_reducible first | apply AO_skipE | apply V_skipE | apply D_skipE); (case hg => exact gF))); (with_reducible first | apply AO_split | apply V_split | apply D_split); (case hg => exact rfl); (case hd => exact rfl); (case hb => exact rfl); (case e1 => exact sT); (case e2 => exact sT); all_goals (intro hg; first | (simp (disch := omega) only [go_sem, rws_get ho, hB] at hg; try omega) | try omega))
          exact L_next ⟨(i + 1, c), by simp; omega, ⟨by simp; omega, by simp; omega, by simp; omega, g2⟩, (by exact weak_mk wkD wkH wkN wkM (by omega))⟩
      · have c2 := move_ok b o.iD o.phase (by omega)
        rcases move_cases b o.iD o.phase with ⟨e, h1, h2⟩ | ⟨k, x, h1, h2, h3, h6, h7, h8, h9⟩
        · rw [h1] at c2
          repeat' first
            | with_reducible first | refine W_seq ?_ | refine W_block ?_ | refine W_skip ?_ | refine N_code ?_ | refine N_blk ?_ | refine W_exit ?_ | refine E_blk ?_ | refine E_code ?_ | refine E_blk_ne (by decide) ?_ | refine W_ret ?_ | refine R_code ?_ | refine R_blk ?_ | refine L_exit ?_ | refine L_ret ?_ | refine F_ret ?_ | refine F_out (by decide) ?_ | refine FW_ret ?_ | refine FW_out (by decide) ?_ | refine R_nil ?_
            | ((with_reducible apply W_condT); (case hb => exact rfl); (case hw => with_reducible rfl))
            | ((with_reducible apply W_condF); (case hb => exact rfl); (case hw => with_reducible rfl))
            | ((with_reducible apply W_condE); (case hb => exact rfl); (case e1 => exact sT); (case e2 => exact sT); all_goals (intro hb; first | (simp (disch := omega) only [go_sem, rws_get ho, hB] at hb; done) | (simp (disch := omega) only [go_sem, rws_get ho, hB] at hb; try omega) | try omega))
            | (with_reducible refine W_reg fun K hK => ?_)
            | (with_reducible refine W_drwR rfl mixed (by decide +kernel) fun K hK => ?_)
            | (with_reducible refine W_drw mixed (by decide +kernel) fun K hK => ?_)
            | ((with_reducible refine AO_nil (hK _ ?_)); clear hK K)
            | ((with_reducible apply D_admE); (case hop => exact rfl); (case ha => exact rfl); (case hna => exact rfl); (try case hl => exact tT); (case hg => exact gT); (case hy => exact rfl); (case ht => exact pT); (case hn => exact nT); (try case hc => exact rfl))
            | ((with_reducible apply D_adrE); (case ha => exact rfl); (case hna => exact rfl); (try case hl => exact tT); (case hg => exact gT); (case hs => simp (maxSteps := 2000000) (disch := omega) only [go_sem, rws_get ho, hB]; exact rfl); (case ht => exact pT); (case hn => exact nT); (try case hc => exact rfl))
            | ((with_reducible first | apply AO_mvE | apply V_mvE | apply D_mvE); (case hop => exact rfl); (case hg => exact gT); (try case hw => exact rfl); (try case hl => exact tT); (case hy => exact rfl); (case ht => exact pT); (case hn => exact nT); (try case hc => exact rfl))
            | ((with_reducible first | apply AO_stepE | apply V_stepE | apply D_stepE); (case hg => exact gT); (try case hw => exact rfl); (try case hl => exact tT); (case hs => simp (maxSteps := 2000000) (disch := omega) only [go_sem, rws_get ho, hB]; exact rfl); (case ht => exact pT); (case hn => exact nT); (try case hc => exact rfl))
            | ((with_reducible first | apply AO_skipE | apply V_skipE | apply D_skipE); (case hg => exact gF); (case ht => exact pT); (case hn => exact nT); (try case hc => exact rfl))
            | ((with_reducible first | apply V_end | apply D_end); (case hi => exact rfl); (try case hind => kernel_rfl); (case hn => exact nT); (with_reducible refine hK _ ?_); clear hK K)
            | ((with_reducible first | apply AO_callE | apply V_callE | apply D_callE); (case hg => exact gT); (case ho => exact rfl); (case ht => exact rfl); (case hp' => first | exact c1 | exact c2); (case htm => exact pT); (case hn => exact nT); (try case hc => exact rfl))
            | ((with_reducible apply AO_nilE); (case hg => exact gT); (case ho => exact rfl); (case ht => simp only [go_sem]; exact rfl); (case hx => exact rfl); (case hn => exact nT); intro bn hnil; (try simp (disch := omega) only [go_sem, rws_get ho, hB] at hnil); dsimp only [putT, List.set_cons_succ, List.set_cons_zero])
            | ((fail_if_success ((with_reducible first | apply AO_stepE | apply V_stepE | apply D_stepE); (case hg => exact gT))); (fail_if_success ((with_reducible first | apply AO_skipE | apply V_skipE | apply D_skipE); (case hg => exact gF))); (with_reducible first | apply AO_split | apply V_split | apply D_split); (case hg => exact rfl); (case hd => exact rfl); (case hb => exact rfl); (case e1 => exact sT); (case e2 => exact sT); all_goals (intro hg; first | (simp (disch := omega) only [go_sem, rws_get ho, hB] at hg; try omega) | try omega))
          exact L_next ⟨(i + 1, b), by simp; omega, ⟨by simp; omega, by simp; omega, by simp; omega, gb⟩, (by exact weak_mk wkD wkH wkN wkM (by omega))⟩
        · rw [h1] at c2
          rw [h3] at c1
          have e2 : (b.set k ⟨x.iD, o.phase, x.level⟩).length = b.length := by simp
          have c3 := find_ok (b.set k ⟨x.iD, o.phase, x.level⟩) o.iD (by unfold maxLen; omega)
          have c4 := count_ok (b.set k ⟨x.iD, o.phase, x.level⟩) (by omega)
          rw [h6] at c3
          have g2 := gb.move h2 (to := o.phase) ⟨h7, h8⟩
          have e1 := cnt_all g2.ph
          have n0 := gb.ph x (List.mem_of_getElem? h2)
          generalize b.set k ⟨x.iD, o.phase, x.level⟩ = c at *
          have n1 : 0 ≤ cnt c 1 := by unfold cnt; omega
          have n2 : 0 ≤ cnt c 2 := by unfold cnt; omega
          have n3 : 0 ≤ cnt c 3 := by unfold cnt; omega
          repeat' first
            | with_reducible first | refine W_seq ?_ | refine W_block ?_ | refine W_skip ?_ | refine N_code ?_ | refine N_blk ?_ | refine W_exit ?_ | refine E_blk ?_ | refine E_code ?_ | refine E_blk_ne (by decide) ?_ | refine W_ret ?_ | refine R_code ?_ | refine R_blk ?_ | refine L_exit ?_ | refine L_ret ?_ | refine F_ret ?_ | refine F_out (by decide) ?_ | refine FW_ret ?_ | refine FW_out (by decide) ?_ | refine R_nil ?_
            | ((with_reducible apply W_condT); (case hb => exact rfl); (case hw => with_reducible rfl))
            | ((with_reducible apply W_condF); (case hb => exact rfl); (case hw => with_reducible rfl))
            | ((with_reducible apply W_condE); (case hb => exact rfl); (case e1 => exact sT); (case e2 => exact sT); all_goals (intro hb; first | (simp (disch := omega) only [go_sem, rws_get ho, hB] at hb; done) | (simp (disch := omega) only [go_sem, rws_get ho, hB] at hb; try omega) | try omega))
            | (with_reducible refine W_reg fun K hK => ?_)
            | (with_reducible refine W_drwR rfl mixed (by decide +kernel) fun K hK => ?_)
            | (with_reducible refine W_drw mixed (by decide +kernel) fun K hK => ?_)
            | ((with_reducible refine AO_nil (hK _ ?_)); clear hK K)
            | ((with_reducible apply D_admE); (case hop => exact rfl); (case ha => exact rfl); (case hna => exact rfl); (try case hl => exact tT); (case hg => exact gT); (case hy => exact rfl); (case ht => exact pT); (case hn => exact nT); (try case hc => exact rfl))
            | ((with_reducible apply D_adrE); (case ha => exact rfl); (case hna => exact rfl); (try case hl => exact tT); (case hg => exact gT); (case hs => simp (maxSteps := 2000000) (disch := omega) only [go_sem, rws_get ho, hB]; exact rfl); (case ht => exact pT); (case hn => exact nT); (try case hc => exact rfl))
            | ((with_reducible first | apply AO_mvE | apply V_mvE | apply D_mvE); (case hop => exact rfl); (case hg => exact gT); (try case hw => exact rfl); (try case hl => exact tT); (case hy => exact rfl); (case ht => exact pT); (case hn => exact nT); (try case hc => exact rfl))
            | ((with_reducible first | apply AO_stepE | apply V_stepE | apply D_stepE); (case hg => exact gT); (try case hw => exact rfl); (try case hl => exact tT); (case hs => simp (maxSteps := 2000000) (disch := omega) only [go_sem, rws_get ho, hB]; exact rfl); (case ht => exact pT); (case hn => exact nT); (try case hc => exact rfl))
            | ((with_reducible first | apply AO_skipE | apply V_skipE | apply D_skipE); (case hg => exact gF); (case ht => exact pT); (case hn => exact nT); (try case hc => exact rfl))
            | ((with_reducible first | apply V_end | apply D_end); (case hi => exact rfl); (try case hind => kernel_rfl); (case hn => exact nT); (with_reducible refine hK _ ?_); clear hK K)
            | ((with_reducible first | apply AO_callE | apply V_callE | apply D_callE); (case hg => exact gT); (case ho => exact rfl); (case ht => exact rfl); (case hp' => first | exact c1 | exact c2 | exact c3 | exact c4); (case htm => exact pT); (case hn => exact nT); (try case hc => exact rfl))
            | ((with_reducible apply AO_nilE); (case hg => exact gT); (case ho => exact rfl); (case ht => simp only [go_sem]; exact rfl); (case hx => exact rfl); (case hn => exact nT); intro bn hnil; (try simp (disch := omega) only [go_sem, rws_get ho, hB] at hnil); dsimp only [putT, List.set_cons_succ, List.set_cons_zero])
            | ((fail_if_success ((with_reducible first | apply AO_stepE | apply V_stepE | apply D_stepE); (case hg => exact gT))); (fail_if_success ((with_reducible first | apply AO_skipE | apply V_skipE | apply D_skipE); (case hg => exact gF))); (with_reducible first | apply AO_split | apply V_split | apply D_split); (case hg => exact rfl); (case hd => exact rfl); (case hb => exact rfl); (case e1 => exact sT); (case e2 => exact sT); all_goals (intro hg; first | (simp (disch := omega) only [go_sem, rws_get ho, hB] at hg; try omega) | try omega))
          exact L_next ⟨(i + 1, c), by simp; omega, ⟨by simp; omega, by simp; omega, by simp; omega, g2⟩, (by exact weak_mk wkD wkH wkN wkM (by omega))⟩
  · repeat' first
      | with_reducible first | refine W_seq ?_ | refine W_block ?_ | refine W_skip ?_ | refine N_code ?_ | refine N_blk ?_ | refine W_exit ?_ | refine E_blk ?_ | refine E_code ?_ | refine E_blk_ne (by decide) ?_ | refine W_ret ?_ | refine R_code ?_ | refine R_blk ?_ | refine L_exit ?_ | refine L_ret ?_ | refine F_ret ?_ | refine F_out (by decide) ?_ | refine FW_ret ?_ | refine FW_out (by decide) ?_ | refine R_nil ?_
      | ((with_reducible apply W_condT); (case hb => exact rfl); (case hw => with_reducible rfl))
      | ((with_reducible apply W_condF); (case hb => exact rfl); (case hw => with_reducible rfl))
      | ((with_reducible apply W_condE); (case hb => exact rfl); (case e1 => exact sT); (case e2 => exact sT); all_goals (intro hb; first | (simp (disch := omega) only [go_sem] at hb; done) | (simp (disch := omega) only [go_sem] at hb; try omega) | try omega))
      | (with_reducible refine W_reg fun K hK => ?_)
      | (with_reducible refine W_drwR rfl mixed (by decide +kernel) fun K hK => ?_)
      | (with_reducible refine W_drw mixed (by decide +kernel) fun K hK => ?_)
      | ((with_reducible refine AO_nil (hK _ ?_)); clear hK K)
      | ((with_reducible apply D_admE); (case hop => exact rfl); (case ha => exact rfl); (case hna => exact rfl); (try case hl => exact tT); (case hg => exact gT); (case hy => exact rfl); (case ht => exact pT); (case hn => exact nT); (try case hc => exact rfl))
      | ((with_reducible apply D_adrE); (case ha => exact rfl); (case hna => exact rfl); (try case hl => exact tT); (case hg => exact gT); (case hs => simp (maxSteps := 2000000) (disch := omega) only [go_sem]; exact rfl); (case ht => exact pT); (case hn => exact nT); (try case hc => exact rfl))
      | ((with_reducible first | apply AO_mvE | apply V_mvE | apply D_mvE); (case hop => exact rfl); (case hg => exact gT); (try case hw => exact rfl); (try case hl => exact tT); (case hy => exact rfl); (case ht => exact pT); (case hn => exact nT); (try case hc => exact rfl))
      | ((with_reducible first | apply AO_stepE | apply V_stepE | apply D_stepE); (case hg => exact gT); (try case hw => exact rfl); (try case hl => exact tT); (case hs => simp (maxSteps := 2000000) (disch := omega) only [go_sem]; exact rfl); (case ht => exact pT); (case hn => exact nT); (try case hc => exact rfl))
      | ((with_reducible first | apply AO_skipE | apply V_skipE | apply D_skipE); (case hg => exact gF); (case ht => exact pT); (case hn => exact nT); (try case hc => exact rfl))
      | ((with_reducible first | apply V_end | apply D_end); (case hi => exact rfl); (try case hind => kernel_rfl); (case hn => exact nT); (with_reducible refine hK _ ?_); clear hK K)
      | ((with_reducible apply AO_nilE); (case hg => exact gT); (case ho => exact rfl); (case ht => simp only [go_sem]; exact rfl); (case hx => exact rfl); (case hn => exact nT); intro bn hnil; (try simp (disch := omega) only [go_sem] at hnil); dsimp only [putT, List.set_cons_succ, List.set_cons_zero])
      | ((fail_if_success ((with_reducible first | apply AO_stepE | apply V_stepE | apply D_stepE); (case hg => exact gT))); (fail_if_success ((with_reducible first | apply AO_skipE | apply V_skipE | apply D_skipE); (case hg => exact gF))); (with_reducible first | apply AO_split | apply V_split | apply D_split); (case hg => exact rfl); (case hd => exact rfl); (case hb => exact rfl); (case e1 => exact sT); (case e2 => exact sT); all_goals (intro hg; first | (simp (disch := omega) only [go_sem] at hg; try omega) | try omega))
    all_goals
      refine W_foldK (fun (p : Nat) => [none, none, some .junk, none, none, none, none, none, none, none, none, none, none, none, none, some (.int .i64 p), some .junk, none, none, none, none, none, none, none, none, none, none, none, none, none, none, none, none, none, none, none, none, none, none, none, none, none, none, none, none, none, none, none, none, none, none, none, none, none, none, none, none, none, none, none, none, none, none, none, none, none, none, none, none, none, none, none, none, none, none, none, none, none, none, none, none, none, none, none, none, none, none, none, none, none, none, none, none, none, none, none, none, none, none, none, none, none, none, none, none, none, none, none, none, none, none, none, none, none, none, none, none, none, none, none, none, none, none, none, none, none, none, none, none, none, none, none, none, none, none, none, none, none, some .junk, some .junk, some .junk, some .junk, some .junk, some .junk, some .junk, some .junk, some .junk, some .junk, some .junk, some .junk, some .junk, some .junk, some .junk, some .junk, some .junk, some .junk, some .junk, some .junk, some .junk, some .junk]) (fun p => p ≤ b.length) (fun p => b.length - p) 0 (by omega) (by exact weak_mk wkD wkH wkN wkM (by omega)) ?_
      rintro p hp
      simp only [msk_none, msk_some, msk_nil]
      rcases Nat.lt_or_ge p b.length with h6 | h6
      · obtain ⟨x, hx⟩ := some_of_lt h6
        repeat' first
          | with_reducible first | refine W_seq ?_ | refine W_block ?_ | refine W_skip ?_ | refine N_code ?_ | refine N_blk ?_ | refine W_exit ?_ | refine E_blk ?_ | refine E_code ?_ | refine E_blk_ne (by decide) ?_ | refine W_ret ?_ | refine R_code ?_ | refine R_blk ?_ | refine L_exit ?_ | refine L_ret ?_ | refine F_ret ?_ | refine F_out (by decide) ?_ | refine FW_ret ?_ | refine FW_out (by decide) ?_ | refine R_nil ?_
          | ((with_reducible apply W_condT); (case hb => exact rfl); (case hw => with_reducible rfl))
          | ((with_reducible apply W_condF); (case hb => exact rfl); (case hw => with_reducible rfl))
          | ((with_reducible apply W_condE); (case hb => exact rfl); (case e1 => exact sT); (case e2 => exact sT); all_goals (intro hb; first | (simp (disch := omega) only [go_sem, rws_get hx] at hb; done) | (simp (disch := omega) only [go_sem, rws_get hx] at hb; try omega) | try omega))
          | (with_reducible refine W_reg fun K hK => ?_)
          | (with_reducible refine W_drwR rfl mixed (by decide +kernel) fun K hK => ?_)
          | (with_reducible refine W_drw mixed (by decide +kernel) fun K hK => ?_)
          | ((with_reducible refine AO_nil (hK _ ?_)); clear hK K)
          | ((with_reducible apply D_admE); (case hop => exact rfl); (case ha => exact rfl); (case hna => exact rfl); (try case hl => exact tT); (case hg => exact gT); (case hy => exact rfl); (case ht => exact pT); (case hn => exact nT); (try case hc => exact rfl))
          | ((with_reducible apply D_adrE); (case ha => exact rfl); (case hna => exact rfl); (try case hl => exact tT); (case hg => exact gT); (case hs => simp (maxSteps := 2000000) (disch := omega) only [go_sem, rws_get hx]; exact rfl); (case ht => exact pT); (case hn => exact nT); (try case hc => exact rfl))
          | ((with_reducible first | apply AO_mvE | apply V_mvE | apply D_mvE); (case hop => exact rfl); (case hg => exact gT); (try case hw => exact rfl); (try case hl => exact tT); (case hy => exact rfl); (case ht => exact pT); (case hn => exact nT); (try case hc => exact rfl))
          | ((with_reducible first | apply AO_stepE | apply V_stepE | apply D_stepE); (case hg => exact gT); (try case hw => exact rfl); (try case hl => exact tT); (case hs => simp (maxSteps := 2000000) (disch := omega) only [go_sem, rws_get hx]; exact rfl); (case ht => exact pT); (case hn => exact nT); (try case hc => exact rfl))
          | ((with_reducible first | apply AO_skipE | apply V_skipE | apply D_skipE); (case hg => exact gF); (case ht => exact pT); (case hn => exact nT); (try case hc => exact rfl))
          | ((with_reducible first | apply V_end | apply D_end); (case hi => exact rfl); (try case hind => kernel_rfl); (case hn => exact nT); (with_reducible refine hK _ ?_); clear hK K)
          | ((with_reducible apply AO_nilE); (case hg => exact gT); (case ho => exact rfl); (case ht => simp only [go_sem]; exact rfl); (case hx => exact rfl); (case hn => exact nT); intro bn hnil; (try simp (disch := omega) only [go_sem, rws_get hx] at hnil); dsimp only [putT, List.set_cons_succ, List.set_cons_zero])
          | ((fail_if_success ((with_reducible first | apply AO_stepE | apply V_stepE | apply D_stepE); (case hg => exact gT))); (fail_if_success ((with_reducible first | apply AO_skipE | apply V_skipE | apply D_skipE); (case hg => exact gF))); (with_reducible first | apply AO_split | apply V_split | apply D_split); (case hg => exact rfl); (case hd => exact rfl); (case hb => exact rfl); (case e1 => exact sT); (case e2 => exact sT); all_goals (intro hg; first | (simp (disch := omega) only [go_sem, rws_get hx] at hg; try omega) | try omega))
        refine W_foldK (fun (k : Nat) => [none, none, some .junk, none, none, none, none, none, none, none, none, none, none, none, none, none, some (.int .i64 k), none, none, none, none, none, none, none, none, none, none, none, none, none, none, none, none, none, none, none, none, none, none, none, none, none, none, none, none, none, none, none, none, none, none, none, none, none, none, none, none, none, none, none, none, none, none, none, none, none, none, none, none, none, none, none, none, none, none, none, none, none, none, none, none, none, none, none, none, none, none, none, none, none, none, none, none, none, none, none, none, none, none, none, none, none, none, none, none, none, none, none, none, none, none, none, none, none, none, none, none, none, none, none, none, none, none, none, none, none, none, none, none, none, none, none, none, none, none, none, none, none, none, none, none, none, none, none, some .junk, some .junk, some .junk, some .junk, some .junk, some .junk, some .junk, some .junk, some .junk, some .junk, some .junk, some .junk, some .junk, some .junk, some .junk, some .junk]) (fun k => k ≤ p) (fun k => p - k) 0 (by omega) (by exact weak_mk wkD wkH wkN wkM (by omega)) ?_
        rintro k hk
        simp only [msk_none, msk_some, msk_nil]
        rcases Nat.lt_or_ge k p with h7 | h7
        · obtain ⟨y, hy⟩ := some_of_lt (l := b) (i := k) (by omega)
          have h8 := gb.dis p k x y h7 hx hy
          repeat' first
            | with_reducible first | refine W_seq ?_ | refine W_block ?_ | refine W_skip ?_ | refine N_code ?_ | refine N_blk ?_ | refine W_exit ?_ | refine E_blk ?_ | refine E_code ?_ | refine E_blk_ne (by decide) ?_ | refine W_ret ?_ | refine R_code ?_ | refine R_blk ?_ | refine L_exit ?_ | refine L_ret ?_ | refine F_ret ?_ | refine F_out (by decide) ?_ | refine FW_ret ?_ | refine FW_out (by decide) ?_ | refine R_nil ?_
            | ((with_reducible apply W_condT); (case hb => exact rfl); (case hw => with_reducible rfl))
            | ((with_reducible apply W_condF); (case hb => exact rfl); (case hw => with_reducible rfl))
            | ((with_reducible apply W_condE); (case hb => exact rfl); (case e1 => exact sT); (case e2 => exact sT); all_goals (intro hb; first | (simp (disch := omega) only [go_sem, rws_get hx, rws_get hy] at hb; done) | (simp (disch := omega) only [go_sem, rws_get hx, rws_get hy] at hb; try omega) | try omega))
            | (with_reducible refine W_reg fun K hK => ?_)
            | (with_reducible refine W_drwR rfl mixed (by decide +kernel) fun K hK => ?_)
            | (with_reducible refine W_drw mixed (by decide +kernel) fun K hK => ?_)
            | ((with_reducible refine AO_nil (hK _ ?_)); clear hK K)
            | ((with_reducible apply D_admE); (case hop => exact rfl); (case ha => exact rfl); (case hna => exact rfl); (try case hl => exact tT); (case hg => exact gT); (case hy => exact rfl); (case ht => exact pT); (case hn => exact nT); (try case hc => exact rfl))
            | ((with_reducible apply D_adrE); (case ha => exact rfl); (case hna => exact rfl); (try case hl => exact tT); (case hg => exact gT); (case hs => simp (maxSteps := 2000000) (disch := omega) only [go_sem, rws_get hx, rws_get hy]; exact rfl); (case ht => exact pT); (case hn => exact nT); (try case hc => exact rfl))
            | ((with_reducible first | apply AO_mvE | apply V_mvE | apply D_mvE); (case hop => exact rfl); (case hg => exact gT); (try case hw => exact rfl); (try case hl => exact tT); (case hy => exact rfl); (case ht => exact pT); (case hn => exact nT); (try case hc => exact rfl))
            | ((with_reducible first | apply AO_stepE | apply V_stepE | apply D_stepE); (case hg => exact gT); (try case hw => exact rfl); (try case hl => exact tT); (case hs => simp (maxSteps := 2000000) (disch := omega) only [go_sem, rws_get hx, rws_get hy]; exact rfl); (case ht => exact pT); (case hn => exact nT); (try case hc => exact rfl))
            | ((with_reducible first | apply AO_skipE | apply V_skipE | apply D_skipE); (case hg => exact gF); (case ht => exact pT); (case hn => exact nT); (try case hc => exact rfl))
            | ((with_reducible first | apply V_end | apply D_end); (case hi => exact rfl); (try case hind => kernel_rfl); (case hn => exact nT); (with_reducible refine hK _ ?_); clear hK K)
            | ((with_reducible apply AO_nilE); (case hg => exact gT); (case ho => exact rfl); (case ht => simp only [go_sem]; exact rfl); (case hx => exact rfl); (case hn => exact nT); intro bn hnil; (try simp (disch := omega) only [go_sem, rws_get hx, rws_get hy] at hnil); dsimp only [putT, List.set_cons_succ, List.set_cons_zero])
            | ((fail_if_success ((with_reducible first | apply AO_stepE | apply V_stepE | apply D_stepE); (case hg => exact gT))); (fail_if_success ((with_reducible first | apply AO_skipE | apply V_skipE | apply D_skipE); (case hg => exact gF))); (with_reducible first | apply AO_split | apply V_split | apply D_split); (case hg => exact rfl); (case hd => exact rfl); (case hb => exact rfl); (case e1 => exact sT); (case e2 => exact sT); all_goals (intro hg; first | (simp (disch := omega) only [go_sem, rws_get hx, rws_get hy] at hg; try omega) | try omega))
          exact L_next ⟨k + 1, by omega, by omega, (by exact weak_mk wkD wkH wkN wkM (by omega))⟩
        · repeat' first
            | with_reducible first | refine W_seq ?_ | refine W_block ?_ | refine W_skip ?_ | refine N_code ?_ | refine N_blk ?_ | refine W_exit ?_ | refine E_blk ?_ | refine E_code ?_ | refine E_blk_ne (by decide) ?_ | refine W_ret ?_ | refine R_code ?_ | refine R_blk ?_ | refine L_exit ?_ | refine L_ret ?_ | refine F_ret ?_ | refine F_out (by decide) ?_ | refine FW_ret ?_ | refine FW_out (by decide) ?_ | refine R_nil ?_
            | ((with_reducible apply W_condT); (case hb => exact rfl); (case hw => with_reducible rfl))
            | ((with_reducible apply W_condF); (case hb => exact rfl); (case hw => with_reducible rfl))
            | ((with_reducible apply W_condE); (case hb => exact rfl); (case e1 => exact sT); (case e2 => exact sT); all_goals (intro hb; first | (simp (disch := omega) only [go_sem] at hb; done) | (simp (disch := omega) only [go_sem] at hb; try omega) | try omega))
            | (with_reducible refine W_reg fun K hK => ?_)
            | (with_reducible refine W_drwR rfl mixed (by decide +kernel) fun K hK => ?_)
            | (with_reducible refine W_drw mixed (by decide +kernel) fun K hK => ?_)
            | ((with_reducible refine AO_nil (hK _ ?_)); clear hK K)
            | ((with_reducible apply D_admE); (case hop => exact rfl); (case ha => exact rfl); (case hna => exact rfl); (try case hl => exact tT); (case hg => exact gT); (case hy => exact rfl); (case ht => exact pT); (case hn => exact nT); (try case hc => exact rfl))
            | ((with_reducible apply D_adrE); (case ha => exact rfl); (case hna => exact rfl); (try case hl => exact tT); (case hg => exact gT); (case hs => simp (maxSteps := 2000000) (disch := omega) only [go_sem]; exact rfl); (case ht => exact pT); (case hn => exact nT); (try case hc => exact rfl))
            | ((with_reducible first | apply AO_mvE | apply V_mvE | apply D_mvE); (case hop => exact rfl); (case hg => exact gT); (try case hw => exact rfl); (try case hl => exact tT); (case hy => exact rfl); (case ht => exact pT); (case hn => exact nT); (try case hc => exact rfl))
            | ((with_reducible first | apply AO_stepE | apply V_stepE | apply D_stepE); (case hg => exact gT); (try case hw => exact rfl); (try case hl => exact tT); (case hs => simp (maxSteps := 2000000) (disch := omega) only [go_sem]; exact rfl); (case ht => exact pT); (case hn => exact nT); (try case hc => exact rfl))
            | ((with_reducible first | apply AO_skipE | apply V_skipE | apply D_skipE); (case hg => exact gF); (case ht => exact pT); (case hn => exact nT); (try case hc => exact rfl))
            | ((with_reducible first | apply V_end | apply D_end); (case hi => exact rfl); (try case hind => kernel_rfl); (case hn => exact nT); (with_reducible refine hK _ ?_); clear hK K)
            | ((with_reducible apply AO_nilE); (case hg => exact gT); (case ho => exact rfl); (case ht => simp only [go_sem]; exact rfl); (case hx => exact rfl); (case hn => exact nT); intro bn hnil; (try simp (disch := omega) only [go_sem] at hnil); dsimp only [putT, List.set_cons_succ, List.set_cons_zero])
            | ((fail_if_success ((with_reducible first | apply AO_stepE | apply V_stepE | apply D_stepE); (case hg => exact gT))); (fail_if_success ((with_reducible first | apply AO_skipE | apply V_skipE | apply D_skipE); (case hg => exact gF))); (with_reducible first | apply AO_split | apply V_split | apply D_split); (case hg => exact rfl); (case hd => exact rfl); (case hb => exact rfl); (case e1 => exact sT); (case e2 => exact sT); all_goals (intro hg; first | (simp (disch := omega) only [go_sem] at hg; try omega) | try omega))
          exact L_next ⟨p + 1, by omega, by omega, (by exact weak_mk wkD wkH wkN wkM (by omega))⟩
      · repeat' first
          | with_reducible first | refine W_seq ?_ | refine W_block ?_ | refine W_skip ?_ | refine N_code ?_ | refine N_blk ?_ | refine W_exit ?_ | refine E_blk ?_ | refine E_code ?_ | refine E_blk_ne (by decide) ?_ | refine W_ret ?_ | refine R_code ?_ | refine R_blk ?_ | refine L_exit ?_ | refine L_ret ?_ | refine F_ret ?_ | refine F_out (by decide) ?_ | refine FW_ret ?_ | refine FW_out (by decide) ?_ | refine R_nil ?_
          | ((with_reducible apply W_condT); (case hb => exact rfl); (case hw => with_reducible rfl))
          | ((with_reducible apply W_condF); (case hb => exact rfl); (case hw => with_reducible rfl))
          | ((with_reducible apply W_condE); (case hb => exact rfl); (case e1 => exact sT); (case e2 => exact sT); all_goals (intro hb; first | (simp (disch := omega) only [go_sem] at hb; done) | (simp (disch := omega) only [go_sem] at hb; try omega) | try omega))
          | (with_reducible refine W_reg fun K hK => ?_)
          | (with_reducible refine W_drwR rfl mixed (by decide +kernel) fun K hK => ?_)
          | (with_reducible refine W_drw mixed (by decide +kernel) fun K hK => ?_)
          | ((with_reducible refine AO_nil (hK _ ?_)); clear hK K)
          | ((with_reducible apply D_admE); (case hop => exact rfl); (case ha => exact rfl); (case hna => exact rfl); (try case hl => exact tT); (case hg => exact gT); (case hy => exact rfl); (case ht => exact pT); (case hn => exact nT); (try case hc => exact rfl))
          | ((with_reducible apply D_adrE); (case ha => exact rfl); (case hna => exact rfl); (try case hl => exact tT); (case hg => exact gT); (case hs => simp (maxSteps := 2000000) (disch := omega) only [go_sem]; exact rfl); (case ht => exact pT); (case hn => exact nT); (try case hc => exact rfl))
          | ((with_reducible first | apply AO_mvE | apply V_mvE | apply D_mvE); (case hop => exact rfl); (case hg => exact gT); (try case hw => exact rfl); (try case hl => exact tT); (case hy => exact rfl); (case ht => exact pT); (case hn => exact nT); (try case hc => exact rfl))
          | ((with_reducible first | apply AO_stepE | apply V_stepE | apply D_stepE); (case hg => exact gT); (try case hw => exact rfl); (try case hl => exact tT); (case hs => simp (maxSteps := 2000000) (disch := omega) only [go_sem]; exact rfl); (case ht => exact pT); (case hn => exact nT); (try case hc => exact rfl))
          | ((with_reducible first | apply AO_skipE | apply V_skipE | apply D_skipE); (case hg => exact gF); (case ht => exact pT); (case hn => exact nT); (try case hc => exact rfl))
          | ((with_reducible first | apply V_end | apply D_end); (case hi => exact rfl); (try case hind => kernel_rfl); (case hn => exact nT); (with_reducible refine hK _ ?_); clear hK K)
          | ((with_reducible apply AO_nilE); (case hg => exact gT); (case ho => exact rfl); (case ht => simp only [go_sem]; exact rfl); (case hx => exact rfl); (case hn => exact nT); intro bn hnil; (try simp (disch := omega) only [go_sem] at hnil); dsimp only [putT, List.set_cons_succ, List.set_cons_zero])
          | ((fail_if_success ((with_reducible first | apply AO_stepE | apply V_stepE | apply D_stepE); (case hg => exact gT))); (fail_if_success ((with_reducible first | apply AO_skipE | apply V_skipE | apply D_skipE); (case hg => exact gF))); (with_reducible first | apply AO_split | apply V_split | apply D_split); (case hg => exact rfl); (case hd => exact rfl); (case hb => exact rfl); (case e1 => exact sT); (case e2 => exact sT); all_goals (intro hg; first | (simp (disch := omega) only [go_sem] at hg; try omega) | try omega))
        (with_reducible apply retQ_frz); (case h => simp (disch := omega) only [go_sem]; exact rfl); (case hq => exact rfl); (case hz => simp [Fz.int_iff, Fz.bool_iff, Fz.agg_iff, Fz.str_iff, rws_fz_iff, ri_fz_iff, Fz.tuple_iff, enc_fz_iff, enc_mem_iff, Fz.fp_iff, Fz.func_iff]); (case hf => repeat' first | exact .refl _ | (refine .tupleC ?_) | (refine .cons ?_ ?_) | exact .nil | exact .slR (.refl _) | exact .refE trivial (by simp only [go_sem]; exact rfl) (by first | rfl | (simp; done) | (simp [rws, Enc.enc]; done)) (by first | rfl | simp [rws_length]) | (refine .aggC ?_))

end Go.Proofs.Ytenlmlhepcgpiaa
