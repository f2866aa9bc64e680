/-
  A level: Open, Arrive, Drop, Turn; walked.
-/
import Derived.Test.YtdgjelfeclgolaaF30
namespace Go.Proofs.Ytdgjelfeclgolaa
open Go Go.AM
set_option maxHeartbeats 8000000
set_option maxRecDepth 8000
set_option linter.unusedSimpArgs false
set_option linter.unusedVariables false

theorem lopen_ok (l : TLevel) : PCall Try.prog 63 [.agg (Enc.enc l)] (· = .agg (Enc.enc (lopen l))) := by
  have c1 := fnew_ok l.queues l.guess l.length
  unfold lopen
  generalize fnew l.queues l.guess l.length = R at *
  obtain ⟨F, e⟩ := R
  simp only [shapeV] at c1 ⊢
  by_cases h : l.kind = 3
  · rw [if_pos h]
    refine PCall_intro (c := Try.f63.body.getD .skip) Try.func63 rfl (by decide +kernel) Zf (W_start ?_)
    simp only [Try.f63, go_sem]
    repeat' first
      | refine Z0 ?_
      | refine Zx ?_
      | refine Zc c1 ?_
      | (refine Ze ?_; clear hK K)
      | refine W_reg fun K hK => ?_
      | refine W_drwR rfl mixed (by decide +kernel) fun K hK => ?_
      | refine W_drw mixed (by decide +kernel) fun K hK => ?_
      | (refine Zb ?_ ?_ <;> intro hb <;> first | (simp (disch := omega) only [go_sem] at hb; done) | (simp (disch := omega) only [go_sem] at hb; try omega) | try omega)
      | (refine Zl ?_; intro bn hnil; (try simp (disch := omega) only [go_sem] at hnil); dsimp only [putT, List.set_cons_succ, List.set_cons_zero])
    exact Zr
  · rw [if_neg h]
    refine PCall_intro (c := Try.f63.body.getD .skip) Try.func63 rfl (by decide +kernel) Zf (W_start ?_)
    simp only [Try.f63, go_sem]
    repeat' first
      | refine Z0 ?_
      | refine Zx ?_
      | refine Zc c1 ?_
      | (refine Ze ?_; clear hK K)
      | refine W_reg fun K hK => ?_
      | refine W_drwR rfl mixed (by decide +kernel) fun K hK => ?_
      | refine W_drw mixed (by decide +kernel) fun K hK => ?_
      | (refine Zb ?_ ?_ <;> intro hb <;> first | (simp (disch := omega) only [go_sem] at hb; done) | (simp (disch := omega) only [go_sem] at hb; try omega) | try omega)
      | (refine Zl ?_; intro bn hnil; (try simp (disch := omega) only [go_sem] at hnil); dsimp only [putT, List.set_cons_succ, List.set_cons_zero])
    exact Zr

abbrev stE (r : TState × Int) : AVal := .tuple [.agg (Enc.enc r.1), .int .i64 r.2]
abbrev stT (r : TState × TTicket × Int) : AVal := .tuple [.agg (Enc.enc r.1), .agg (Enc.enc r.2.1), .int .i64 r.2.2]

theorem larrive_ok (s : TState) (t : TTicket) (hand : List Int) (hf : okF 1000 1000 s.fair) (hr : s.running.length ≤ 2000000) (hl : s.limit ≤ 9223372036854775807) (hh : hand.length ≤ maxLen) :
    PCall Try.prog 72 [.agg (Enc.enc s), .agg (Enc.enc t), .sl (rws hand) none] (· = stE (larrive s t hand)) := by
  have c0 := lcopied_ok s hf hr
  have c1 := fjoin_ok s.fair hand (seated t 0) hf hh
  have c2 := waiting_ok s.fair hf
  unfold larrive
  obtain ⟨lv, q, li, bo, de, fa, ru⟩ := s
  simp only [] at c0 c1 c2 hf hr hl ⊢
  cases q with
  | true =>
    rw [if_pos rfl]
    refine PCall_intro (c := Try.f72.body.getD .skip) Try.func72 rfl (by decide +kernel) Zf (W_start ?_)
    simp only [Try.f72, go_sem]
    repeat' first
      | refine Z0 ?_
      | refine Zx ?_
      | (refine Ze ?_; clear hK K)
      | refine W_reg fun K hK => ?_
      | refine W_drwR rfl mixed (by decide +kernel) fun K hK => ?_
      | refine W_drw mixed (by decide +kernel) fun K hK => ?_
      | (refine Zb ?_ ?_ <;> intro hb <;> first | (simp (disch := omega) only [go_sem] at hb; done) | (simp (disch := omega) only [go_sem] at hb; try omega) | try omega)
      | (refine Zl ?_; intro bn hnil; (try simp (disch := omega) only [go_sem] at hnil); dsimp only [putT, List.set_cons_succ, List.set_cons_zero])
    all_goals exact Zr
  | false =>
    rw [if_neg (by simp)]
    by_cases h2 : lv.kind = 3
    · rw [if_pos h2]
      generalize fjoin fa hand (seated t 0) = J at *
      obtain ⟨F, k, e⟩ := J
      simp only [joinV] at c1 ⊢
      by_cases h3 : e = 0
      · rw [if_pos h3]
        refine PCall_intro (c := Try.f72.body.getD .skip) Try.func72 rfl (by decide +kernel) Zf (W_start ?_)
        simp only [Try.f72, go_sem]
        repeat' first
          | refine Z0 ?_
          | refine Zx ?_
          | refine Zw c0 ?_
          | refine Zc c1 ?_
          | (refine Ze ?_; clear hK K)
          | refine W_reg fun K hK => ?_
          | refine W_drwR rfl mixed (by decide +kernel) fun K hK => ?_
          | refine W_drw mixed (by decide +kernel) fun K hK => ?_
          | (refine Zb ?_ ?_ <;> intro hb <;> first | (simp (disch := omega) only [go_sem] at hb; done) | (simp (disch := omega) only [go_sem] at hb; try omega) | try omega)
          | (refine Zl ?_; intro bn hnil; (try simp (disch := omega) only [go_sem] at hnil); dsimp only [putT, List.set_cons_succ, List.set_cons_zero])
        all_goals exact Zr
      · rw [if_neg h3]
        refine PCall_intro (c := Try.f72.body.getD .skip) Try.func72 rfl (by decide +kernel) Zf (W_start ?_)
        simp only [Try.f72, go_sem]
        repeat' first
          | refine Z0 ?_
          | refine Zx ?_
          | refine Zw c0 ?_
          | refine Zc c1 ?_
          | (refine Ze ?_; clear hK K)
          | refine W_reg fun K hK => ?_
          | refine W_drwR rfl mixed (by decide +kernel) fun K hK => ?_
          | refine W_drw mixed (by decide +kernel) fun K hK => ?_
          | (refine Zb ?_ ?_ <;> intro hb <;> first | (simp (disch := omega) only [go_sem] at hb; done) | (simp (disch := omega) only [go_sem] at hb; try omega) | try omega)
          | (refine Zl ?_; intro bn hnil; (try simp (disch := omega) only [go_sem] at hnil); dsimp only [putT, List.set_cons_succ, List.set_cons_zero])
        all_goals exact Zr
    · rw [if_neg h2]
      generalize waiting fa = W at *
      by_cases h3 : lv.kind ≠ 1 ∧ 0 < W
      · rw [if_pos h3]
        obtain ⟨h4, h5⟩ := h3
        refine PCall_intro (c := Try.f72.body.getD .skip) Try.func72 rfl (by decide +kernel) Zf (W_start ?_)
        simp only [Try.f72, go_sem]
        repeat' first
          | refine Z0 ?_
          | refine Zx ?_
          | refine Zw c0 ?_
          | refine Zc c2 ?_
          | (refine Ze ?_; clear hK K)
          | refine W_reg fun K hK => ?_
          | refine W_drwR rfl mixed (by decide +kernel) fun K hK => ?_
          | refine W_drw mixed (by decide +kernel) fun K hK => ?_
          | (refine Zb ?_ ?_ <;> intro hb <;> first | (simp (disch := omega) only [go_sem] at hb; done) | (simp (disch := omega) only [go_sem] at hb; try omega) | try omega)
          | (refine Zl ?_; intro bn hnil; (try simp (disch := omega) only [go_sem] at hnil); dsimp only [putT, List.set_cons_succ, List.set_cons_zero])
        all_goals exact Zr
      · rw [if_neg h3]
        obtain ⟨n, b, hfit⟩ : ∃ n b, fits ⟨lv, false, li, bo, de, fa, ru⟩ t.width = (n, b) := ⟨_, _, rfl⟩
        rw [hfit]
        cases b with
        | true =>
          have c3 := lrun_yes ⟨lv, false, li, bo, de, fa, ru⟩ t _ rfl hr hl n hfit 7
          have r6 : (ru ++ [seated t n]).length = ru.length + 1 := by simp
          rw [if_pos rfl]
          by_cases h4 : lv.kind = 1
          · refine PCall_intro (c := Try.f72.body.getD .skip) Try.func72 rfl (by decide +kernel) Zf (W_start ?_)
            simp only [Try.f72, go_sem]
            repeat' first
              | refine Z0 ?_
              | refine Zx ?_
              | refine Zw c0 ?_
              | refine Zc c2 ?_
              | refine Zfc c3 ?_
              | (refine Ze ?_; clear hK K)
              | refine W_reg fun K hK => ?_
              | refine W_drwR rfl mixed (by decide +kernel) fun K hK => ?_
              | refine W_drw mixed (by decide +kernel) fun K hK => ?_
              | (refine Zb ?_ ?_ <;> intro hb <;> first | (simp (disch := omega) only [go_sem] at hb; done) | (simp (disch := omega) only [go_sem] at hb; try omega) | try omega)
              | (refine Zl ?_; intro bn hnil; (try simp (disch := omega) only [go_sem] at hnil); dsimp only [putT, List.set_cons_succ, List.set_cons_zero])
            all_goals exact Zr
          · have h5 : ¬ 0 < W := fun q => h3 ⟨h4, q⟩
            refine PCall_intro (c := Try.f72.body.getD .skip) Try.func72 rfl (by decide +kernel) Zf (W_start ?_)
            simp only [Try.f72, go_sem]
            repeat' first
              | refine Z0 ?_
              | refine Zx ?_
              | refine Zw c0 ?_
              | refine Zc c2 ?_
              | refine Zfc c3 ?_
              | (refine Ze ?_; clear hK K)
              | refine W_reg fun K hK => ?_
              | refine W_drwR rfl mixed (by decide +kernel) fun K hK => ?_
              | refine W_drw mixed (by decide +kernel) fun K hK => ?_
              | (refine Zb ?_ ?_ <;> intro hb <;> first | (simp (disch := omega) only [go_sem] at hb; done) | (simp (disch := omega) only [go_sem] at hb; try omega) | try omega)
              | (refine Zl ?_; intro bn hnil; (try simp (disch := omega) only [go_sem] at hnil); dsimp only [putT, List.set_cons_succ, List.set_cons_zero])
            all_goals exact Zr
        | false =>
          have c3 := lrun_no ⟨lv, false, li, bo, de, fa, ru⟩ t _ rfl hr hl n hfit 7
          rw [if_neg (by simp)]
          by_cases h4 : lv.kind = 1
          · refine PCall_intro (c := Try.f72.body.getD .skip) Try.func72 rfl (by decide +kernel) Zf (W_start ?_)
            simp only [Try.f72, go_sem]
            repeat' first
              | refine Z0 ?_
              | refine Zx ?_
              | refine Zw c0 ?_
              | refine Zc c2 ?_
              | refine Zfc c3 ?_
              | (refine Ze ?_; clear hK K)
              | refine W_reg fun K hK => ?_
              | refine W_drwR rfl mixed (by decide +kernel) fun K hK => ?_
              | refine W_drw mixed (by decide +kernel) fun K hK => ?_
              | (refine Zb ?_ ?_ <;> intro hb <;> first | (simp (disch := omega) only [go_sem] at hb; done) | (simp (disch := omega) only [go_sem] at hb; try omega) | try omega)
              | (refine Zl ?_; intro bn hnil; (try simp (disch := omega) only [go_sem] at hnil); dsimp only [putT, List.set_cons_succ, List.set_cons_zero])
            all_goals exact Zr
          · have h5 : ¬ 0 < W := fun q => h3 ⟨h4, q⟩
            refine PCall_intro (c := Try.f72.body.getD .skip) Try.func72 rfl (by decide +kernel) Zf (W_start ?_)
            simp only [Try.f72, go_sem]
            repeat' first
              | refine Z0 ?_
              | refine Zx ?_
              | refine Zw c0 ?_
              | refine Zc c2 ?_
              | refine Zfc c3 ?_
              | (refine Ze ?_; clear hK K)
              | refine W_reg fun K hK => ?_
              | refine W_drwR rfl mixed (by decide +kernel) fun K hK => ?_
              | refine W_drw mixed (by decide +kernel) fun K hK => ?_
              | (refine Zb ?_ ?_ <;> intro hb <;> first | (simp (disch := omega) only [go_sem] at hb; done) | (simp (disch := omega) only [go_sem] at hb; try omega) | try omega)
              | (refine Zl ?_; intro bn hnil; (try simp (disch := omega) only [go_sem] at hnil); dsimp only [putT, List.set_cons_succ, List.set_cons_zero])
            all_goals exact Zr

theorem ldrop_ok (s : TState) (id : Int) (hf : okF 1000 1000 s.fair) (hr : s.running.length ≤ 2000000) : PCall Try.prog 78 [.agg (Enc.enc s), .int .i64 id] (· = stT (ldrop s id)) := by
  have c0 := lcopied_ok s hf hr
  have c1 := fdrop_ok s.fair id hf
  unfold ldrop
  generalize fdrop s.fair id = R at *
  obtain ⟨F, t, b⟩ := R
  simp only [fairV] at c1 ⊢
  cases b with
  | true =>
    rw [if_pos rfl]
    refine PCall_intro (c := Try.f78.body.getD .skip) Try.func78 rfl (by decide +kernel) Zf (W_start ?_)
    simp only [Try.f78, go_sem]
    repeat' first
      | refine Z0 ?_
      | refine Zx ?_
      | refine Zw c0 ?_
      | refine Zc c1 ?_
      | (refine Ze ?_; clear hK K)
      | refine W_reg fun K hK => ?_
      | refine W_drwR rfl mixed (by decide +kernel) fun K hK => ?_
      | refine W_drw mixed (by decide +kernel) fun K hK => ?_
      | (refine Zb ?_ ?_ <;> intro hb <;> first | (simp (disch := omega) only [go_sem] at hb; done) | (simp (disch := omega) only [go_sem] at hb; try omega) | try omega)
      | (refine Zl ?_; intro bn hnil; (try simp (disch := omega) only [go_sem] at hnil); dsimp only [putT, List.set_cons_succ, List.set_cons_zero])
    all_goals exact Zr
  | false =>
    rw [if_neg (by simp)]
    refine PCall_intro (c := Try.f78.body.getD .skip) Try.func78 rfl (by decide +kernel) Zf (W_start ?_)
    simp only [Try.f78, go_sem]
    repeat' first
      | refine Z0 ?_
      | refine Zx ?_
      | refine Zw c0 ?_
      | refine Zc c1 ?_
      | (refine Ze ?_; clear hK K)
      | refine W_reg fun K hK => ?_
      | refine W_drwR rfl mixed (by decide +kernel) fun K hK => ?_
      | refine W_drw mixed (by decide +kernel) fun K hK => ?_
      | (refine Zb ?_ ?_ <;> intro hb <;> first | (simp (disch := omega) only [go_sem] at hb; done) | (simp (disch := omega) only [go_sem] at hb; try omega) | try omega)
      | (refine Zl ?_; intro bn hnil; (try simp (disch := omega) only [go_sem] at hnil); dsimp only [putT, List.set_cons_succ, List.set_cons_zero])
    all_goals exact Zr

theorem lturn_ok (s : TState) (l : TLevel) (q : Bool) (hf : okF 1000 1000 s.fair) (hr : s.running.length ≤ 2000000) : PCall Try.prog 82 [.agg (Enc.enc s), .agg (Enc.enc l), .bool q] (· = .agg (Enc.enc (lturn s l q))) := by
  have c0 := lcopied_ok s hf hr
  have c1 := shape_ok s.fair l.queues l.guess l.length hf
  have c2 := shut_ok s.fair hf
  unfold lturn
  generalize shape s.fair l.queues l.guess l.length = R at *
  generalize shut s.fair = S at *
  obtain ⟨F, e⟩ := R
  simp only [shapeV] at c1 ⊢
  by_cases h1 : l.kind = 3
  · cases q with
    | true =>
      rw [if_neg (by simp)]
      refine PCall_intro (c := Try.f82.body.getD .skip) Try.func82 rfl (by decide +kernel) Zf (W_start ?_)
      simp only [Try.f82, go_sem]
      repeat' first
        | refine Z0 ?_
        | refine Zx ?_
        | refine Zw c0 ?_
        | refine Zc c1 ?_
        | refine Zc c2 ?_
        | (refine Ze ?_; clear hK K)
        | refine W_reg fun K hK => ?_
        | refine W_drwR rfl mixed (by decide +kernel) fun K hK => ?_
        | refine W_drw mixed (by decide +kernel) fun K hK => ?_
        | (refine Zb ?_ ?_ <;> intro hb <;> first | (simp (disch := omega) only [go_sem] at hb; done) | (simp (disch := omega) only [go_sem] at hb; try omega) | try omega)
        | (refine Zl ?_; intro bn hnil; (try simp (disch := omega) only [go_sem] at hnil); dsimp only [putT, List.set_cons_succ, List.set_cons_zero])
      all_goals exact Zr
    | false =>
      by_cases h2 : e = 0
      · rw [if_pos ⟨h1, rfl, h2⟩]
        refine PCall_intro (c := Try.f82.body.getD .skip) Try.func82 rfl (by decide +kernel) Zf (W_start ?_)
        simp only [Try.f82, go_sem]
        repeat' first
          | refine Z0 ?_
          | refine Zx ?_
          | refine Zw c0 ?_
          | refine Zc c1 ?_
          | refine Zc c2 ?_
          | (refine Ze ?_; clear hK K)
          | refine W_reg fun K hK => ?_
          | refine W_drwR rfl mixed (by decide +kernel) fun K hK => ?_
          | refine W_drw mixed (by decide +kernel) fun K hK => ?_
          | (refine Zb ?_ ?_ <;> intro hb <;> first | (simp (disch := omega) only [go_sem] at hb; done) | (simp (disch := omega) only [go_sem] at hb; try omega) | try omega)
          | (refine Zl ?_; intro bn hnil; (try simp (disch := omega) only [go_sem] at hnil); dsimp only [putT, List.set_cons_succ, List.set_cons_zero])
        all_goals exact Zr
      · rw [if_neg (fun h => h2 h.2.2)]
        refine PCall_intro (c := Try.f82.body.getD .skip) Try.func82 rfl (by decide +kernel) Zf (W_start ?_)
        simp only [Try.f82, go_sem]
        repeat' first
          | refine Z0 ?_
          | refine Zx ?_
          | refine Zw c0 ?_
          | refine Zc c1 ?_
          | refine Zc c2 ?_
          | (refine Ze ?_; clear hK K)
          | refine W_reg fun K hK => ?_
          | refine W_drwR rfl mixed (by decide +kernel) fun K hK => ?_
          | refine W_drw mixed (by decide +kernel) fun K hK => ?_
          | (refine Zb ?_ ?_ <;> intro hb <;> first | (simp (disch := omega) only [go_sem] at hb; done) | (simp (disch := omega) only [go_sem] at hb; try omega) | try omega)
          | (refine Zl ?_; intro bn hnil; (try simp (disch := omega) only [go_sem] at hnil); dsimp only [putT, List.set_cons_succ, List.set_cons_zero])
        all_goals exact Zr
  · rw [if_neg (fun h => h1 h.1)]
    refine PCall_intro (c := Try.f82.body.getD .skip) Try.func82 rfl (by decide +kernel) Zf (W_start ?_)
    simp only [Try.f82, go_sem]
    repeat' first
      | refine Z0 ?_
      | refine Zx ?_
      | refine Zw c0 ?_
      | refine Zc c1 ?_
      | refine Zc c2 ?_
      | (refine Ze ?_; clear hK K)
      | refine W_reg fun K hK => ?_
      | refine W_drwR rfl mixed (by decide +kernel) fun K hK => ?_
      | refine W_drw mixed (by decide +kernel) fun K hK => ?_
      | (refine Zb ?_ ?_ <;> intro hb <;> first | (simp (disch := omega) only [go_sem] at hb; done) | (simp (disch := omega) only [go_sem] at hb; try omega) | try omega)
      | (refine Zl ?_; intro bn hnil; (try simp (disch := omega) only [go_sem] at hnil); dsimp only [putT, List.set_cons_succ, List.set_cons_zero])
    all_goals exact Zr

end Go.Proofs.Ytdgjelfeclgolaa
