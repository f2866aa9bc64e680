/-
  The reference's level: Copy, Open, Runs, Wants, Fits, Arrive, Drop, Turn, Empty; walked.
-/
import Derived.Test.YtdgjelfeclgolaaF36
namespace Go.Proofs.Ytdgjelfeclgolaa
open Go Go.AM
set_option maxHeartbeats 8000000
set_option maxRecDepth 8000
set_option linter.unusedSimpArgs false
set_option linter.unusedVariables false

theorem scopy_ok (s : TState) (hf : okF 1000 1000 s.fair) (hr : s.running.length ≤ 2000000) : PNew Try.prog 65 [.agg (Enc.enc s)] (fun j => stV s (.ref j s.running.length 0 s.running.length false s.running.length)) (.arr 5 (rws s.running)) := by
  have c1 := fcopyP_ok s.fair hf
  refine PNew_body (c := Try.f65.body.getD .skip) Try.func65 rfl (by decide +kernel) Zf (state1 _ _) (rws_mem _) (W_start ?_)
  simp only [Try.f65, go_sem]
  repeat' first
    | refine Z0 ?_
    | refine Zx ?_
    | refine Zc c1 ?_
    | (refine Ze ?_; clear hK K)
    | refine W_reg fun K hK => ?_
    | refine W_drwR rfl mixed (by decide +kernel) fun K hK => ?_
    | refine W_drw mixed (by decide +kernel) fun K hK => ?_
    | (refine Zb ?_ ?_ <;> intro hb <;> first | (simp (disch := omega) only [go_sem] at hb; done) | (simp (disch := omega) only [go_sem] at hb; try omega) | try omega)
    | (refine Zl ?_; intro bn hnil; (try simp (disch := omega) only [go_sem] at hnil); dsimp only [putT, List.set_cons_succ, List.set_cons_zero])
  exact Zrw

theorem sopen_ok (l : TLevel) : PCall Try.prog 64 [.agg (Enc.enc l)] (· = .agg (Enc.enc (lopen l))) := by
  have c1 := rnew_ok l.queues l.guess l.length
  unfold lopen
  have hz : (fnew l.queues l.guess l.length).2 ≠ 0 → (fnew l.queues l.guess l.length).1 = zeroF := fun h => by
    rw [fnew_eq] at h ⊢
    split
    · rename_i hm; rw [if_pos hm] at h; exact absurd rfl h
    · rfl
  generalize fnew l.queues l.guess l.length = R at *
  obtain ⟨F, e⟩ := R
  simp only [shapeV] at c1 hz ⊢
  by_cases h : l.kind = 3
  · rw [if_pos h]
    by_cases h2 : e = 0
    · refine PCall_intro (c := Try.f64.body.getD .skip) Try.func64 rfl (by decide +kernel) Zf (W_start ?_)
      simp only [Try.f64, go_sem]
      repeat' first
        | refine Z0 ?_
        | refine Zx ?_
        | refine Zc c1 ?_
        | (refine Ze ?_; clear hK K)
        | refine W_reg fun K hK => ?_
        | refine W_drwR rfl mixed (by decide +kernel) fun K hK => ?_
        | refine W_drw mixed (by decide +kernel) fun K hK => ?_
        | (refine Zb ?_ ?_ <;> intro hb <;> first | (simp (disch := omega) only [go_sem] at hb; done) | (simp (disch := omega) only [go_sem] at hb; try omega) | try omega)
        | (refine Zl ?_; intro bn hnil; (try simp (disch := omega) only [go_sem] at hnil); dsimp only [putT, List.set_cons_succ, List.set_cons_zero])
      exact Zr
    · have := hz h2
      subst this
      refine PCall_intro (c := Try.f64.body.getD .skip) Try.func64 rfl (by decide +kernel) Zf (W_start ?_)
      simp only [Try.f64, go_sem]
      repeat' first
        | refine Z0 ?_
        | refine Zx ?_
        | refine Zc c1 ?_
        | (refine Ze ?_; clear hK K)
        | refine W_reg fun K hK => ?_
        | refine W_drwR rfl mixed (by decide +kernel) fun K hK => ?_
        | refine W_drw mixed (by decide +kernel) fun K hK => ?_
        | (refine Zb ?_ ?_ <;> intro hb <;> first | (simp (disch := omega) only [go_sem] at hb; done) | (simp (disch := omega) only [go_sem] at hb; try omega) | try omega)
        | (refine Zl ?_; intro bn hnil; (try simp (disch := omega) only [go_sem] at hnil); dsimp only [putT, List.set_cons_succ, List.set_cons_zero])
      exact Zr
  · rw [if_neg h]
    refine PCall_intro (c := Try.f64.body.getD .skip) Try.func64 rfl (by decide +kernel) Zf (W_start ?_)
    simp only [Try.f64, go_sem]
    repeat' first
      | refine Z0 ?_
      | refine Zx ?_
      | refine Zc c1 ?_
      | (refine Ze ?_; clear hK K)
      | refine W_reg fun K hK => ?_
      | refine W_drwR rfl mixed (by decide +kernel) fun K hK => ?_
      | refine W_drw mixed (by decide +kernel) fun K hK => ?_
      | (refine Zb ?_ ?_ <;> intro hb <;> first | (simp (disch := omega) only [go_sem] at hb; done) | (simp (disch := omega) only [go_sem] at hb; try omega) | try omega)
      | (refine Zl ?_; intro bn hnil; (try simp (disch := omega) only [go_sem] at hnil); dsimp only [putT, List.set_cons_succ, List.set_cons_zero])
    exact Zr

theorem sruns_ok (s : TState) (hr : s.running.length ≤ 2000000) : PCall Try.prog 85 [.agg (Enc.enc s)] (· = .int .i64 (runsL s.running)) := by
  refine PCall_intro (c := Try.f85.body.getD .skip) Try.func85 rfl (by decide +kernel) Zf (W_start ?_)
  simp only [Try.f85, go_sem]
  repeat' first
    | refine Z0 ?_
    | refine Zx ?_
    | (refine Ze ?_; clear hK K)
    | refine W_reg fun K hK => ?_
    | refine W_drwR rfl mixed (by decide +kernel) fun K hK => ?_
    | refine W_drw mixed (by decide +kernel) fun K hK => ?_
    | (refine Zb ?_ ?_ <;> intro hb <;> first | (simp (disch := omega) only [go_sem] at hb; done) | (simp (disch := omega) only [go_sem] at hb; try omega) | try omega)
    | (refine Zl ?_; intro bn hnil; (try simp (disch := omega) only [go_sem] at hnil); dsimp only [putT, List.set_cons_succ, List.set_cons_zero])
  refine W_foldK (fun (i : Nat) => [none, none, none, some (.int .i64 (runsL (s.running.take i))), some (.int .i64 i), some .junk, some .junk, some .junk, some .junk, some .junk, some .junk, some .junk, some .junk, some .junk, some .junk, some .junk, some .junk, some .junk, some .junk, some .junk, some .junk, some .junk, some .junk, some .junk, some .junk, some .junk]) (fun i => i ≤ s.running.length) (fun i => s.running.length - i) 0 (by omega) (by simp only [List.take_zero, show runsL [] = 0 from rfl]; exact (by exact weak_mk wkD wkH wkN wkM (by omega))) ?_
  rintro i hi
  simp only [msk_none, msk_some, msk_nil]
  rcases Nat.lt_or_ge i s.running.length with h4 | h4
  · obtain ⟨x, hx⟩ := some_of_lt h4
    have b1 := runsL_take s.running i
    have e1 := runsL_snoc hx
    generalize runsL (s.running.take i) = A at *
    by_cases h1 : x.seats > 16
    · have e2 : sea x = 16 := by unfold sea; omega
      rw [e2] at e1
      have zz1 := rws_get hx
      repeat' first
        | refine Z1 ?_
        | refine Zx ?_
        | (refine Ze ?_; clear hK K)
        | refine W_reg fun K hK => ?_
        | refine W_drwR rfl mixed (by decide +kernel) fun K hK => ?_
        | refine W_drw mixed (by decide +kernel) fun K hK => ?_
        | (refine Zb ?_ ?_ <;> intro hb <;> first | (simp (disch := omega) only [go_sem, zz1] at hb; done) | (simp (disch := omega) only [go_sem, zz1] at hb; try omega) | try omega)
        | (refine Zl ?_; intro bn hnil; (try simp (disch := omega) only [go_sem, zz1] at hnil); dsimp only [putT, List.set_cons_succ, List.set_cons_zero])
      all_goals exact L_next ⟨i + 1, by omega, by omega, by rw [e1]; exact (by exact weak_mk wkD wkH wkN wkM (by omega))⟩
    · by_cases h2 : x.seats > 0
      · have e2 : sea x = x.seats := by unfold sea; omega
        rw [e2] at e1
        have zz1 := rws_get hx
        repeat' first
          | refine Z1 ?_
          | refine Zx ?_
          | (refine Ze ?_; clear hK K)
          | refine W_reg fun K hK => ?_
          | refine W_drwR rfl mixed (by decide +kernel) fun K hK => ?_
          | refine W_drw mixed (by decide +kernel) fun K hK => ?_
          | (refine Zb ?_ ?_ <;> intro hb <;> first | (simp (disch := omega) only [go_sem, zz1] at hb; done) | (simp (disch := omega) only [go_sem, zz1] at hb; try omega) | try omega)
          | (refine Zl ?_; intro bn hnil; (try simp (disch := omega) only [go_sem, zz1] at hnil); dsimp only [putT, List.set_cons_succ, List.set_cons_zero])
        all_goals exact L_next ⟨i + 1, by omega, by omega, by rw [e1]; exact (by exact weak_mk wkD wkH wkN wkM (by omega))⟩
      · have e2 : sea x = 0 := by unfold sea; omega
        rw [e2, Int.add_zero] at e1
        have zz1 := rws_get hx
        repeat' first
          | refine Z1 ?_
          | refine Zx ?_
          | (refine Ze ?_; clear hK K)
          | refine W_reg fun K hK => ?_
          | refine W_drwR rfl mixed (by decide +kernel) fun K hK => ?_
          | refine W_drw mixed (by decide +kernel) fun K hK => ?_
          | (refine Zb ?_ ?_ <;> intro hb <;> first | (simp (disch := omega) only [go_sem, zz1] at hb; done) | (simp (disch := omega) only [go_sem, zz1] at hb; try omega) | try omega)
          | (refine Zl ?_; intro bn hnil; (try simp (disch := omega) only [go_sem, zz1] at hnil); dsimp only [putT, List.set_cons_succ, List.set_cons_zero])
        all_goals exact L_next ⟨i + 1, by omega, by omega, by rw [e1]; exact (by exact weak_mk wkD wkH wkN wkM (by omega))⟩
  · obtain rfl : i = s.running.length := by omega
    rw [List.take_length]
    repeat' first
      | refine Z0 ?_
      | refine Zx ?_
      | (refine Ze ?_; clear hK K)
      | refine W_reg fun K hK => ?_
      | refine W_drwR rfl mixed (by decide +kernel) fun K hK => ?_
      | refine W_drw mixed (by decide +kernel) fun K hK => ?_
      | (refine Zb ?_ ?_ <;> intro hb <;> first | (simp (disch := omega) only [go_sem] at hb; done) | (simp (disch := omega) only [go_sem] at hb; try omega) | try omega)
      | (refine Zl ?_; intro bn hnil; (try simp (disch := omega) only [go_sem] at hnil); dsimp only [putT, List.set_cons_succ, List.set_cons_zero])
    exact Zr

theorem sfits_ok (s : TState) (w : Int) (hr : s.running.length ≤ 2000000) (hl : s.limit ≤ 9223372036854775807) : PCall Try.prog 84 [.agg (Enc.enc s), .int .i64 w] (· = .tuple [.int .i64 (fits s w).1, .bool (fits s w).2]) := by
  have c1 := rwid_ok w
  have c2 := sruns_ok s hr
  have b1 := runsL_le s.running
  have b2 := wid_le w
  unfold fits
  generalize wid w = W at *
  by_cases h1 : s.level.kind = 1
  · simp only [if_pos h1]
    refine PCall_intro (c := Try.f84.body.getD .skip) Try.func84 rfl (by decide +kernel) Zf (W_start ?_)
    simp only [Try.f84, go_sem]
    repeat' first
      | refine Z0 ?_
      | refine Zx ?_
      | refine Zc c1 ?_
      | refine Zc c2 ?_
      | (refine Ze ?_; clear hK K)
      | refine W_reg fun K hK => ?_
      | refine W_drwR rfl mixed (by decide +kernel) fun K hK => ?_
      | refine W_drw mixed (by decide +kernel) fun K hK => ?_
      | (refine Zb ?_ ?_ <;> intro hb <;> first | (simp (disch := omega) only [go_sem] at hb; done) | (simp (disch := omega) only [go_sem] at hb; try omega) | try omega)
      | (refine Zl ?_; intro bn hnil; (try simp (disch := omega) only [go_sem] at hnil); dsimp only [putT, List.set_cons_succ, List.set_cons_zero])
    all_goals exact Zr
  · simp only [if_neg h1]
    by_cases h2 : s.limit < 1
    · simp only [if_pos h2]
      refine PCall_intro (c := Try.f84.body.getD .skip) Try.func84 rfl (by decide +kernel) Zf (W_start ?_)
      simp only [Try.f84, go_sem]
      repeat' first
        | refine Z0 ?_
        | refine Zx ?_
        | refine Zc c1 ?_
        | refine Zc c2 ?_
        | (refine Ze ?_; clear hK K)
        | refine W_reg fun K hK => ?_
        | refine W_drwR rfl mixed (by decide +kernel) fun K hK => ?_
        | refine W_drw mixed (by decide +kernel) fun K hK => ?_
        | (refine Zb ?_ ?_ <;> intro hb <;> first | (simp (disch := omega) only [go_sem] at hb; done) | (simp (disch := omega) only [go_sem] at hb; try omega) | try omega)
        | (refine Zl ?_; intro bn hnil; (try simp (disch := omega) only [go_sem] at hnil); dsimp only [putT, List.set_cons_succ, List.set_cons_zero])
      all_goals exact Zr
    · simp only [if_neg h2]
      by_cases h3 : s.running.length = 0
      · simp only [if_pos h3]
        by_cases h5 : W > s.limit
        · rw [show min W s.limit = s.limit by omega]
          refine PCall_intro (c := Try.f84.body.getD .skip) Try.func84 rfl (by decide +kernel) Zf (W_start ?_)
          simp only [Try.f84, go_sem]
          repeat' first
            | refine Z0 ?_
            | refine Zx ?_
            | refine Zc c1 ?_
            | refine Zc c2 ?_
            | (refine Ze ?_; clear hK K)
            | refine W_reg fun K hK => ?_
            | refine W_drwR rfl mixed (by decide +kernel) fun K hK => ?_
            | refine W_drw mixed (by decide +kernel) fun K hK => ?_
            | (refine Zb ?_ ?_ <;> intro hb <;> first | (simp (disch := omega) only [go_sem] at hb; done) | (simp (disch := omega) only [go_sem] at hb; try omega) | try omega)
            | (refine Zl ?_; intro bn hnil; (try simp (disch := omega) only [go_sem] at hnil); dsimp only [putT, List.set_cons_succ, List.set_cons_zero])
          all_goals exact Zr
        · rw [show min W s.limit = W by omega]
          refine PCall_intro (c := Try.f84.body.getD .skip) Try.func84 rfl (by decide +kernel) Zf (W_start ?_)
          simp only [Try.f84, go_sem]
          repeat' first
            | refine Z0 ?_
            | refine Zx ?_
            | refine Zc c1 ?_
            | refine Zc c2 ?_
            | (refine Ze ?_; clear hK K)
            | refine W_reg fun K hK => ?_
            | refine W_drwR rfl mixed (by decide +kernel) fun K hK => ?_
            | refine W_drw mixed (by decide +kernel) fun K hK => ?_
            | (refine Zb ?_ ?_ <;> intro hb <;> first | (simp (disch := omega) only [go_sem] at hb; done) | (simp (disch := omega) only [go_sem] at hb; try omega) | try omega)
            | (refine Zl ?_; intro bn hnil; (try simp (disch := omega) only [go_sem] at hnil); dsimp only [putT, List.set_cons_succ, List.set_cons_zero])
          all_goals exact Zr
      · simp only [if_neg h3]
        generalize runsL s.running = R at *
        by_cases h4 : R ≤ s.limit - W
        · simp only [if_pos h4]
          have h4' : R + W ≤ s.limit := by omega
          refine PCall_intro (c := Try.f84.body.getD .skip) Try.func84 rfl (by decide +kernel) Zf (W_start ?_)
          simp only [Try.f84, go_sem]
          repeat' first
            | refine Z0 ?_
            | refine Zx ?_
            | refine Zc c1 ?_
            | refine Zc c2 ?_
            | (refine Ze ?_; clear hK K)
            | refine W_reg fun K hK => ?_
            | refine W_drwR rfl mixed (by decide +kernel) fun K hK => ?_
            | refine W_drw mixed (by decide +kernel) fun K hK => ?_
            | (refine Zb ?_ ?_ <;> intro hb <;> first | (simp (disch := omega) only [go_sem] at hb; done) | (simp (disch := omega) only [go_sem] at hb; try omega) | try omega)
            | (refine Zl ?_; intro bn hnil; (try simp (disch := omega) only [go_sem] at hnil); dsimp only [putT, List.set_cons_succ, List.set_cons_zero])
          all_goals exact Zr
        · simp only [if_neg h4]
          have h4' : ¬ R + W ≤ s.limit := by omega
          refine PCall_intro (c := Try.f84.body.getD .skip) Try.func84 rfl (by decide +kernel) Zf (W_start ?_)
          simp only [Try.f84, go_sem]
          repeat' first
            | refine Z0 ?_
            | refine Zx ?_
            | refine Zc c1 ?_
            | refine Zc c2 ?_
            | (refine Ze ?_; clear hK K)
            | refine W_reg fun K hK => ?_
            | refine W_drwR rfl mixed (by decide +kernel) fun K hK => ?_
            | refine W_drw mixed (by decide +kernel) fun K hK => ?_
            | (refine Zb ?_ ?_ <;> intro hb <;> first | (simp (disch := omega) only [go_sem] at hb; done) | (simp (disch := omega) only [go_sem] at hb; try omega) | try omega)
            | (refine Zl ?_; intro bn hnil; (try simp (disch := omega) only [go_sem] at hnil); dsimp only [putT, List.set_cons_succ, List.set_cons_zero])
          all_goals exact Zr

theorem swants_ok (s : TState) (hf : okF 1000 1000 s.fair) (hr : s.running.length ≤ 2000000) : PCall Try.prog 87 [.agg (Enc.enc s)] (· = .int .i64 (wants s)) := by
  have c1 := sruns_ok s hr
  have c2 := rfseats_ok s.fair hf
  have b1 := runsL_le s.running
  have b2 := fseats_take 1000 s.fair.lanes (fun l hl => (hf.2 l hl).2) s.fair.lanes.length
  rw [List.take_length] at b2
  have b2 : 0 ≤ fseats s.fair ∧ fseats s.fair ≤ 16 * ((1000 : Nat) : Int) * (s.fair.lanes.length : Int) := b2
  have hn := hf.1
  unfold wants
  generalize runsL s.running = R at *
  generalize fseats s.fair = F at *
  refine PCall_intro (c := Try.f87.body.getD .skip) Try.func87 rfl (by decide +kernel) Zf (W_start ?_)
  simp only [Try.f87, go_sem]
  repeat' first
    | refine Z0 ?_
    | refine Zx ?_
    | refine Zc c1 ?_
    | refine Zc c2 ?_
    | (refine Ze ?_; clear hK K)
    | refine W_reg fun K hK => ?_
    | refine W_drwR rfl mixed (by decide +kernel) fun K hK => ?_
    | refine W_drw mixed (by decide +kernel) fun K hK => ?_
    | (refine Zb ?_ ?_ <;> intro hb <;> first | (simp (disch := omega) only [go_sem] at hb; done) | (simp (disch := omega) only [go_sem] at hb; try omega) | try omega)
    | (refine Zl ?_; intro bn hnil; (try simp (disch := omega) only [go_sem] at hnil); dsimp only [putT, List.set_cons_succ, List.set_cons_zero])
  exact Zr

theorem sempty_ok (s : TState) (hf : okF 1000 1000 s.fair) (hr : s.running.length ≤ 2000000) : PCall Try.prog 89 [.agg (Enc.enc s)] (· = .bool (lempty s)) := by
  have c1 := rwaiting_ok s.fair hf
  unfold lempty
  generalize waiting s.fair = W at *
  by_cases h1 : W = 0
  · by_cases h2 : s.running.length = 0
    · rw [decide_eq_true h1, decide_eq_true h2, Bool.true_and]
      refine PCall_intro (c := Try.f89.body.getD .skip) Try.func89 rfl (by decide +kernel) Zf (W_start ?_)
      simp only [Try.f89, go_sem]
      repeat' first
        | refine Z0 ?_
        | refine Zx ?_
        | refine Zc c1 ?_
        | (refine Ze ?_; clear hK K)
        | refine W_reg fun K hK => ?_
        | refine W_drwR rfl mixed (by decide +kernel) fun K hK => ?_
        | refine W_drw mixed (by decide +kernel) fun K hK => ?_
        | (refine Zb ?_ ?_ <;> intro hb <;> first | (simp (disch := omega) only [go_sem] at hb; done) | (simp (disch := omega) only [go_sem] at hb; try omega) | try omega)
        | (refine Zl ?_; intro bn hnil; (try simp (disch := omega) only [go_sem] at hnil); dsimp only [putT, List.set_cons_succ, List.set_cons_zero])
      all_goals exact Zr
    · rw [decide_eq_true h1, decide_eq_false h2, Bool.true_and]
      refine PCall_intro (c := Try.f89.body.getD .skip) Try.func89 rfl (by decide +kernel) Zf (W_start ?_)
      simp only [Try.f89, go_sem]
      repeat' first
        | refine Z0 ?_
        | refine Zx ?_
        | refine Zc c1 ?_
        | (refine Ze ?_; clear hK K)
        | refine W_reg fun K hK => ?_
        | refine W_drwR rfl mixed (by decide +kernel) fun K hK => ?_
        | refine W_drw mixed (by decide +kernel) fun K hK => ?_
        | (refine Zb ?_ ?_ <;> intro hb <;> first | (simp (disch := omega) only [go_sem] at hb; done) | (simp (disch := omega) only [go_sem] at hb; try omega) | try omega)
        | (refine Zl ?_; intro bn hnil; (try simp (disch := omega) only [go_sem] at hnil); dsimp only [putT, List.set_cons_succ, List.set_cons_zero])
      all_goals exact Zr
  · rw [decide_eq_false h1, Bool.false_and]
    refine PCall_intro (c := Try.f89.body.getD .skip) Try.func89 rfl (by decide +kernel) Zf (W_start ?_)
    simp only [Try.f89, go_sem]
    repeat' first
      | refine Z0 ?_
      | refine Zx ?_
      | refine Zc c1 ?_
      | (refine Ze ?_; clear hK K)
      | refine W_reg fun K hK => ?_
      | refine W_drwR rfl mixed (by decide +kernel) fun K hK => ?_
      | refine W_drw mixed (by decide +kernel) fun K hK => ?_
      | (refine Zb ?_ ?_ <;> intro hb <;> first | (simp (disch := omega) only [go_sem] at hb; done) | (simp (disch := omega) only [go_sem] at hb; try omega) | try omega)
      | (refine Zl ?_; intro bn hnil; (try simp (disch := omega) only [go_sem] at hnil); dsimp only [putT, List.set_cons_succ, List.set_cons_zero])
    all_goals exact Zr

theorem sdrop_ok (s : TState) (id : Int) (hf : okF 1000 1000 s.fair) (hr : s.running.length ≤ 2000000) : PCall Try.prog 79 [.agg (Enc.enc s), .int .i64 id] (· = stT (ldrop s id)) := by
  have c0 := scopy_ok s hf hr
  have c1 := rfdrop_ok s.fair id hf
  unfold ldrop
  generalize fdrop s.fair id = R at *
  obtain ⟨F, t, b⟩ := R
  simp only [fairV] at c1 ⊢
  cases b with
  | true =>
    rw [if_pos rfl]
    refine PCall_intro (c := Try.f79.body.getD .skip) Try.func79 rfl (by decide +kernel) Zf (W_start ?_)
    simp only [Try.f79, go_sem]
    repeat' first
      | refine Z0 ?_
      | refine Zx ?_
      | refine Zw c0 ?_
      | refine Zc c1 ?_
      | (refine Ze ?_; clear hK K)
      | refine W_reg fun K hK => ?_
      | refine W_drwR rfl mixed (by decide +kernel) fun K hK => ?_
      | refine W_drw mixed (by decide +kernel) fun K hK => ?_
      | (refine Zb ?_ ?_ <;> intro hb <;> first | (simp (disch := omega) only [go_sem] at hb; done) | (simp (disch := omega) only [go_sem] at hb; try omega) | try omega)
      | (refine Zl ?_; intro bn hnil; (try simp (disch := omega) only [go_sem] at hnil); dsimp only [putT, List.set_cons_succ, List.set_cons_zero])
    all_goals exact Zr
  | false =>
    rw [if_neg (by simp)]
    refine PCall_intro (c := Try.f79.body.getD .skip) Try.func79 rfl (by decide +kernel) Zf (W_start ?_)
    simp only [Try.f79, go_sem]
    repeat' first
      | refine Z0 ?_
      | refine Zx ?_
      | refine Zw c0 ?_
      | refine Zc c1 ?_
      | (refine Ze ?_; clear hK K)
      | refine W_reg fun K hK => ?_
      | refine W_drwR rfl mixed (by decide +kernel) fun K hK => ?_
      | refine W_drw mixed (by decide +kernel) fun K hK => ?_
      | (refine Zb ?_ ?_ <;> intro hb <;> first | (simp (disch := omega) only [go_sem] at hb; done) | (simp (disch := omega) only [go_sem] at hb; try omega) | try omega)
      | (refine Zl ?_; intro bn hnil; (try simp (disch := omega) only [go_sem] at hnil); dsimp only [putT, List.set_cons_succ, List.set_cons_zero])
    all_goals exact Zr

theorem sturn_ok (s : TState) (l : TLevel) (q : Bool) (hf : okF 1000 1000 s.fair) (hr : s.running.length ≤ 2000000) : PCall Try.prog 83 [.agg (Enc.enc s), .agg (Enc.enc l), .bool q] (· = .agg (Enc.enc (lturn s l q))) := by
  have c0 := scopy_ok s hf hr
  have c1 := rshape_ok s.fair l.queues l.guess l.length hf
  have c2 := rshut_ok s.fair hf
  unfold lturn
  generalize shape s.fair l.queues l.guess l.length = R at *
  generalize shut s.fair = S at *
  obtain ⟨F, e⟩ := R
  simp only [shapeV] at c1 ⊢
  by_cases h1 : l.kind = 3
  · cases q with
    | true =>
      rw [if_neg (by simp)]
      refine PCall_intro (c := Try.f83.body.getD .skip) Try.func83 rfl (by decide +kernel) Zf (W_start ?_)
      simp only [Try.f83, go_sem]
      repeat' first
        | refine Z0 ?_
        | refine Zx ?_
        | refine Zw c0 ?_
        | refine Zc c1 ?_
        | refine Zc c2 ?_
        | (refine Ze ?_; clear hK K)
        | refine W_reg fun K hK => ?_
        | refine W_drwR rfl mixed (by decide +kernel) fun K hK => ?_
        | refine W_drw mixed (by decide +kernel) fun K hK => ?_
        | (refine Zb ?_ ?_ <;> intro hb <;> first | (simp (disch := omega) only [go_sem] at hb; done) | (simp (disch := omega) only [go_sem] at hb; try omega) | try omega)
        | (refine Zl ?_; intro bn hnil; (try simp (disch := omega) only [go_sem] at hnil); dsimp only [putT, List.set_cons_succ, List.set_cons_zero])
      all_goals exact Zr
    | false =>
      by_cases h2 : e = 0
      · rw [if_pos ⟨h1, rfl, h2⟩]
        refine PCall_intro (c := Try.f83.body.getD .skip) Try.func83 rfl (by decide +kernel) Zf (W_start ?_)
        simp only [Try.f83, go_sem]
        repeat' first
          | refine Z0 ?_
          | refine Zx ?_
          | refine Zw c0 ?_
          | refine Zc c1 ?_
          | refine Zc c2 ?_
          | (refine Ze ?_; clear hK K)
          | refine W_reg fun K hK => ?_
          | refine W_drwR rfl mixed (by decide +kernel) fun K hK => ?_
          | refine W_drw mixed (by decide +kernel) fun K hK => ?_
          | (refine Zb ?_ ?_ <;> intro hb <;> first | (simp (disch := omega) only [go_sem] at hb; done) | (simp (disch := omega) only [go_sem] at hb; try omega) | try omega)
          | (refine Zl ?_; intro bn hnil; (try simp (disch := omega) only [go_sem] at hnil); dsimp only [putT, List.set_cons_succ, List.set_cons_zero])
        all_goals exact Zr
      · rw [if_neg (fun h => h2 h.2.2)]
        refine PCall_intro (c := Try.f83.body.getD .skip) Try.func83 rfl (by decide +kernel) Zf (W_start ?_)
        simp only [Try.f83, go_sem]
        repeat' first
          | refine Z0 ?_
          | refine Zx ?_
          | refine Zw c0 ?_
          | refine Zc c1 ?_
          | refine Zc c2 ?_
          | (refine Ze ?_; clear hK K)
          | refine W_reg fun K hK => ?_
          | refine W_drwR rfl mixed (by decide +kernel) fun K hK => ?_
          | refine W_drw mixed (by decide +kernel) fun K hK => ?_
          | (refine Zb ?_ ?_ <;> intro hb <;> first | (simp (disch := omega) only [go_sem] at hb; done) | (simp (disch := omega) only [go_sem] at hb; try omega) | try omega)
          | (refine Zl ?_; intro bn hnil; (try simp (disch := omega) only [go_sem] at hnil); dsimp only [putT, List.set_cons_succ, List.set_cons_zero])
        all_goals exact Zr
  · rw [if_neg (fun h => h1 h.1)]
    refine PCall_intro (c := Try.f83.body.getD .skip) Try.func83 rfl (by decide +kernel) Zf (W_start ?_)
    simp only [Try.f83, go_sem]
    repeat' first
      | refine Z0 ?_
      | refine Zx ?_
      | refine Zw c0 ?_
      | refine Zc c1 ?_
      | refine Zc c2 ?_
      | (refine Ze ?_; clear hK K)
      | refine W_reg fun K hK => ?_
      | refine W_drwR rfl mixed (by decide +kernel) fun K hK => ?_
      | refine W_drw mixed (by decide +kernel) fun K hK => ?_
      | (refine Zb ?_ ?_ <;> intro hb <;> first | (simp (disch := omega) only [go_sem] at hb; done) | (simp (disch := omega) only [go_sem] at hb; try omega) | try omega)
      | (refine Zl ?_; intro bn hnil; (try simp (disch := omega) only [go_sem] at hnil); dsimp only [putT, List.set_cons_succ, List.set_cons_zero])
    all_goals exact Zr

theorem sarrive_ok (s : TState) (t : TTicket) (hand : List Int) (hf : okF 1000 1000 s.fair) (hr : s.running.length ≤ 2000000) (hl : s.limit ≤ 9223372036854775807) (hh : hand.length ≤ maxLen) :
    PCall Try.prog 73 [.agg (Enc.enc s), .agg (Enc.enc t), .sl (rws hand) none] (· = stE (larrive s t hand)) := by
  have c0 := scopy_ok s hf hr
  have c1 := rfjoin_ok s.fair hand (seated t 0) hf hh
  have c2 := rwaiting_ok s.fair hf
  have c4 := sfits_ok s t.width hr hl
  unfold larrive
  obtain ⟨lv, q, li, bo, de, fa, ru⟩ := s
  simp only [] at c0 c1 c2 c4 hf hr hl ⊢
  cases q with
  | true =>
    rw [if_pos rfl]
    refine PCall_intro (c := Try.f73.body.getD .skip) Try.func73 rfl (by decide +kernel) Zf (W_start ?_)
    simp only [Try.f73, go_sem]
    repeat' first
      | refine Z0 ?_
      | refine Zx ?_
      | (refine Ze ?_; clear hK K)
      | refine W_reg fun K hK => ?_
      | refine W_drwR rfl mixed (by decide +kernel) fun K hK => ?_
      | refine W_drw mixed (by decide +kernel) fun K hK => ?_
      | (refine Zb ?_ ?_ <;> intro hb <;> first | (simp (disch := omega) only [go_sem] at hb; done) | (simp (disch := omega) only [go_sem] at hb; try omega) | try omega)
      | (refine Zl ?_; intro bn hnil; (try simp (disch := omega) only [go_sem] at hnil); dsimp only [putT, List.set_cons_succ, List.set_cons_zero])
    all_goals exact Zr
  | false =>
    rw [if_neg (by simp)]
    by_cases h2 : lv.kind = 3
    · rw [if_pos h2]
      generalize fjoin fa hand (seated t 0) = J at *
      obtain ⟨F, k, e⟩ := J
      simp only [joinV] at c1 ⊢
      by_cases h3 : e = 0
      · rw [if_pos h3]
        refine PCall_intro (c := Try.f73.body.getD .skip) Try.func73 rfl (by decide +kernel) Zf (W_start ?_)
        simp only [Try.f73, go_sem]
        repeat' first
          | refine Z0 ?_
          | refine Zx ?_
          | refine Zw c0 ?_
          | refine Zc c1 ?_
          | (refine Ze ?_; clear hK K)
          | refine W_reg fun K hK => ?_
          | refine W_drwR rfl mixed (by decide +kernel) fun K hK => ?_
          | refine W_drw mixed (by decide +kernel) fun K hK => ?_
          | (refine Zb ?_ ?_ <;> intro hb <;> first | (simp (disch := omega) only [go_sem] at hb; done) | (simp (disch := omega) only [go_sem] at hb; try omega) | try omega)
          | (refine Zl ?_; intro bn hnil; (try simp (disch := omega) only [go_sem] at hnil); dsimp only [putT, List.set_cons_succ, List.set_cons_zero])
        all_goals exact Zr
      · rw [if_neg h3]
        refine PCall_intro (c := Try.f73.body.getD .skip) Try.func73 rfl (by decide +kernel) Zf (W_start ?_)
        simp only [Try.f73, go_sem]
        repeat' first
          | refine Z0 ?_
          | refine Zx ?_
          | refine Zw c0 ?_
          | refine Zc c1 ?_
          | (refine Ze ?_; clear hK K)
          | refine W_reg fun K hK => ?_
          | refine W_drwR rfl mixed (by decide +kernel) fun K hK => ?_
          | refine W_drw mixed (by decide +kernel) fun K hK => ?_
          | (refine Zb ?_ ?_ <;> intro hb <;> first | (simp (disch := omega) only [go_sem] at hb; done) | (simp (disch := omega) only [go_sem] at hb; try omega) | try omega)
          | (refine Zl ?_; intro bn hnil; (try simp (disch := omega) only [go_sem] at hnil); dsimp only [putT, List.set_cons_succ, List.set_cons_zero])
        all_goals exact Zr
    · rw [if_neg h2]
      generalize waiting fa = W at *
      by_cases h3 : lv.kind ≠ 1 ∧ 0 < W
      · rw [if_pos h3]
        obtain ⟨h4, h5⟩ := h3
        refine PCall_intro (c := Try.f73.body.getD .skip) Try.func73 rfl (by decide +kernel) Zf (W_start ?_)
        simp only [Try.f73, go_sem]
        repeat' first
          | refine Z0 ?_
          | refine Zx ?_
          | refine Zw c0 ?_
          | refine Zc c2 ?_
          | (refine Ze ?_; clear hK K)
          | refine W_reg fun K hK => ?_
          | refine W_drwR rfl mixed (by decide +kernel) fun K hK => ?_
          | refine W_drw mixed (by decide +kernel) fun K hK => ?_
          | (refine Zb ?_ ?_ <;> intro hb <;> first | (simp (disch := omega) only [go_sem] at hb; done) | (simp (disch := omega) only [go_sem] at hb; try omega) | try omega)
          | (refine Zl ?_; intro bn hnil; (try simp (disch := omega) only [go_sem] at hnil); dsimp only [putT, List.set_cons_succ, List.set_cons_zero])
        all_goals exact Zr
      · rw [if_neg h3]
        obtain ⟨n, b, hfit⟩ : ∃ n b, fits ⟨lv, false, li, bo, de, fa, ru⟩ t.width = (n, b) := ⟨_, _, rfl⟩
        rw [hfit] at c4 ⊢
        cases b with
        | true =>
          have r1 := rws_snoc ru (seated t n)
          have r6 : (ru ++ [seated t n]).length = ru.length + 1 := by simp
          simp only [enc_TTicket, seated] at r1
          rw [if_pos rfl]
          by_cases h4 : lv.kind = 1
          · refine PCall_intro (c := Try.f73.body.getD .skip) Try.func73 rfl (by decide +kernel) Zf (W_start ?_)
            simp only [Try.f73, go_sem]
            have zz1 := r1
            repeat' first
              | refine Z1 ?_
              | refine Zx ?_
              | refine Zw c0 ?_
              | refine Zc c2 ?_
              | refine Zc c4 ?_
              | (refine Ze ?_; clear hK K)
              | refine W_reg fun K hK => ?_
              | refine W_drwR rfl mixed (by decide +kernel) fun K hK => ?_
              | refine W_drw mixed (by decide +kernel) fun K hK => ?_
              | (refine Zb ?_ ?_ <;> intro hb <;> first | (simp (disch := omega) only [go_sem, zz1] at hb; done) | (simp (disch := omega) only [go_sem, zz1] at hb; try omega) | try omega)
              | (refine Zl ?_; intro bn hnil; (try simp (disch := omega) only [go_sem, zz1] at hnil); dsimp only [putT, List.set_cons_succ, List.set_cons_zero])
            all_goals exact Zr
          · have h5 : ¬ 0 < W := fun q => h3 ⟨h4, q⟩
            refine PCall_intro (c := Try.f73.body.getD .skip) Try.func73 rfl (by decide +kernel) Zf (W_start ?_)
            simp only [Try.f73, go_sem]
            have zz1 := r1
            repeat' first
              | refine Z1 ?_
              | refine Zx ?_
              | refine Zw c0 ?_
              | refine Zc c2 ?_
              | refine Zc c4 ?_
              | (refine Ze ?_; clear hK K)
              | refine W_reg fun K hK => ?_
              | refine W_drwR rfl mixed (by decide +kernel) fun K hK => ?_
              | refine W_drw mixed (by decide +kernel) fun K hK => ?_
              | (refine Zb ?_ ?_ <;> intro hb <;> first | (simp (disch := omega) only [go_sem, zz1] at hb; done) | (simp (disch := omega) only [go_sem, zz1] at hb; try omega) | try omega)
              | (refine Zl ?_; intro bn hnil; (try simp (disch := omega) only [go_sem, zz1] at hnil); dsimp only [putT, List.set_cons_succ, List.set_cons_zero])
            all_goals exact Zr
        | false =>
          rw [if_neg (by simp)]
          by_cases h4 : lv.kind = 1
          · refine PCall_intro (c := Try.f73.body.getD .skip) Try.func73 rfl (by decide +kernel) Zf (W_start ?_)
            simp only [Try.f73, go_sem]
            repeat' first
              | refine Z0 ?_
              | refine Zx ?_
              | refine Zw c0 ?_
              | refine Zc c2 ?_
              | refine Zc c4 ?_
              | (refine Ze ?_; clear hK K)
              | refine W_reg fun K hK => ?_
              | refine W_drwR rfl mixed (by decide +kernel) fun K hK => ?_
              | refine W_drw mixed (by decide +kernel) fun K hK => ?_
              | (refine Zb ?_ ?_ <;> intro hb <;> first | (simp (disch := omega) only [go_sem] at hb; done) | (simp (disch := omega) only [go_sem] at hb; try omega) | try omega)
              | (refine Zl ?_; intro bn hnil; (try simp (disch := omega) only [go_sem] at hnil); dsimp only [putT, List.set_cons_succ, List.set_cons_zero])
            all_goals exact Zr
          · have h5 : ¬ 0 < W := fun q => h3 ⟨h4, q⟩
            refine PCall_intro (c := Try.f73.body.getD .skip) Try.func73 rfl (by decide +kernel) Zf (W_start ?_)
            simp only [Try.f73, go_sem]
            repeat' first
              | refine Z0 ?_
              | refine Zx ?_
              | refine Zw c0 ?_
              | refine Zc c2 ?_
              | refine Zc c4 ?_
              | (refine Ze ?_; clear hK K)
              | refine W_reg fun K hK => ?_
              | refine W_drwR rfl mixed (by decide +kernel) fun K hK => ?_
              | refine W_drw mixed (by decide +kernel) fun K hK => ?_
              | (refine Zb ?_ ?_ <;> intro hb <;> first | (simp (disch := omega) only [go_sem] at hb; done) | (simp (disch := omega) only [go_sem] at hb; try omega) | try omega)
              | (refine Zl ?_; intro bn hnil; (try simp (disch := omega) only [go_sem] at hnil); dsimp only [putT, List.set_cons_succ, List.set_cons_zero])
            all_goals exact Zr

end Go.Proofs.Ytdgjelfeclgolaa
