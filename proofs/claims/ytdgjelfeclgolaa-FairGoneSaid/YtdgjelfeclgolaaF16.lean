/-
  Lanes that take turns: the laws FairChooses and FairGone; walked.
-/
import Derived.Test.YtdgjelfeclgolaaM22b
namespace Go.Proofs.Ytdgjelfeclgolaa
open Go Go.AM
set_option maxHeartbeats 8000000
set_option maxRecDepth 8000
set_option linter.unusedSimpArgs false
set_option linter.unusedVariables false

theorem fairChooses_ok (f : TFair) (hand : List Int) (hw : f.wf) (hh : hand.length ≤ maxLen) : PCall Try.prog 10 [.agg (Enc.enc f), .sl (rws hand) none] (· = .bool true) := by
  have c0 := awake22_ok
  have cs := small_ok f hw
  have hh2 := hh
  unfold maxLen at hh2
  by_cases hs : smallB f = true
  · rw [hs] at cs
    rcases Nat.lt_or_ge 100 hand.length with h1 | h1
    · refine PCall_intro (c := Try.f10.body.getD .skip) Try.func10 rfl (by decide +kernel) Zf (W_start ?_)
      simp only [Try.f10, go_sem]
      repeat' first
        | refine Z0 ?_
        | refine Zx ?_
        | refine Zc c0 ?_
        | refine Zc cs ?_
        | (refine Ze ?_; clear hK K)
        | refine W_reg fun K hK => ?_
        | refine W_drwR rfl mixed (by decide +kernel) fun K hK => ?_
        | refine W_drw mixed (by decide +kernel) fun K hK => ?_
        | (refine Zb ?_ ?_ <;> intro hb <;> first | (simp (disch := omega) only [go_sem] at hb; done) | (simp (disch := omega) only [go_sem] at hb; try omega) | try omega)
        | (refine Zl ?_; intro bn hnil; (try simp (disch := omega) only [go_sem] at hnil); dsimp only [putT, List.set_cons_succ, List.set_cons_zero])
      exact Zr
    · have hf := small_okF hw hs
      have c1 := choose_ok f hand (hf.mono (by omega) (by omega)) hh
      rcases pick_cases (s := fun k => seats (laneAt f k)) (okHand_ge f) hand with ⟨e1, e2⟩ | ⟨e1, e2, i0, e3, e4, e5⟩
      · have e1 : choose f hand = -1 := e1
        rw [e1] at c1
        refine PCall_intro (c := Try.f10.body.getD .skip) Try.func10 rfl (by decide +kernel) Zf (W_start ?_)
        simp only [Try.f10, go_sem]
        repeat' first
          | refine Z0 ?_
          | refine Zx ?_
          | refine Zc c0 ?_
          | refine Zc cs ?_
          | refine Zc c1 ?_
          | (refine Ze ?_; clear hK K)
          | refine W_reg fun K hK => ?_
          | refine W_drwR rfl mixed (by decide +kernel) fun K hK => ?_
          | refine W_drw mixed (by decide +kernel) fun K hK => ?_
          | (refine Zb ?_ ?_ <;> intro hb <;> first | (simp (disch := omega) only [go_sem] at hb; done) | (simp (disch := omega) only [go_sem] at hb; try omega) | try omega)
          | (refine Zl ?_; intro bn hnil; (try simp (disch := omega) only [go_sem] at hnil); dsimp only [putT, List.set_cons_succ, List.set_cons_zero])
        refine W_foldK (fun (i : Nat) => [none, none, none, none, some .junk, none, some (.bool false), some (.int .i64 i), some .junk, some .junk, some .junk, none, none, none, none, none, none, none, none, none, none, none, none, none, some .junk, some .junk, some .junk, some .junk, some .junk, some .junk, some .junk, some .junk, some .junk, some .junk, some .junk, some .junk, some .junk, some .junk, some .junk, some .junk, some .junk, some .junk, some .junk, some .junk, some .junk, some .junk, some .junk, some .junk, some .junk, some .junk, some .junk, some .junk, some .junk, some .junk, some .junk, some .junk, some .junk, some .junk, some .junk, some .junk, some .junk, some .junk, some .junk, some .junk, some .junk, some .junk, some .junk, some .junk, some .junk, some .junk, some .junk, some .junk, some .junk, some .junk, some .junk, some .junk, some .junk, some .junk, some .junk, some .junk, some .junk, some .junk, some .junk, some .junk, some .junk, some .junk, some .junk, some .junk, some .junk, some .junk, some .junk, some .junk, some .junk]) (fun i => i ≤ hand.length) (fun i => hand.length - i) 0 (by omega) (by exact weak_mk wkD wkH wkN wkM (by omega)) ?_
        rintro i hi
        simp only [msk_none, msk_some, msk_nil]
        rcases Nat.lt_or_ge i hand.length with h4 | h4
        · obtain ⟨h, hx⟩ := some_of_lt h4
          have o1 := e2 h (List.mem_of_getElem? hx)
          have o2 : ¬ (0 ≤ h ∧ h < f.open_ ∧ h < f.lanes.length) := of_decide_eq_false o1
          have zz1 := rws_get hx
          repeat' first
            | refine Z1 ?_
            | refine Zx ?_
            | (refine Ze ?_; clear hK K)
            | refine W_reg fun K hK => ?_
            | refine W_drwR rfl mixed (by decide +kernel) fun K hK => ?_
            | refine W_drw mixed (by decide +kernel) fun K hK => ?_
            | (refine Zb ?_ ?_ <;> intro hb <;> first | (simp (disch := omega) only [go_sem, zz1] at hb; done) | (simp (disch := omega) only [go_sem, zz1] at hb; try omega) | try omega)
            | (refine Zl ?_; intro bn hnil; (try simp (disch := omega) only [go_sem, zz1] at hnil); dsimp only [putT, List.set_cons_succ, List.set_cons_zero])
          all_goals first | (exfalso; omega) | skip
          all_goals exact L_next ⟨i + 1, by omega, by omega, (by exact weak_mk wkD wkH wkN wkM (by omega))⟩
        · repeat' first
            | refine Z0 ?_
            | refine Zx ?_
            | (refine Ze ?_; clear hK K)
            | refine W_reg fun K hK => ?_
            | refine W_drwR rfl mixed (by decide +kernel) fun K hK => ?_
            | refine W_drw mixed (by decide +kernel) fun K hK => ?_
            | (refine Zb ?_ ?_ <;> intro hb <;> first | (simp (disch := omega) only [go_sem] at hb; done) | (simp (disch := omega) only [go_sem] at hb; try omega) | try omega)
            | (refine Zl ?_; intro bn hnil; (try simp (disch := omega) only [go_sem] at hnil); dsimp only [putT, List.set_cons_succ, List.set_cons_zero])
          exact Zr
      · obtain ⟨k, hk⟩ : ∃ k : Nat, choose f hand = k := ⟨(choose f hand).toNat, by have : 0 ≤ choose f hand := e1; omega⟩
        have hk2 : pick (okHand f) (fun k => seats (laneAt f k)) hand = k := hk
        rw [hk] at c1
        simp only [hk2] at e2 e3 e4 e5
        have o3 := of_decide_eq_true e2
        have hy := laneAt_get (f := f) (k := (k : Int)) (by omega) o3.2.2
        rw [Int.toNat_natCast] at hy
        have cy := seats_ok (laneAt f k) (Nat.le_trans (hf.at k).2 (by omega))
        have hi0 : i0 < hand.length := (List.getElem?_eq_some_iff.1 e3).1
        refine PCall_intro (c := Try.f10.body.getD .skip) Try.func10 rfl (by decide +kernel) Zf (W_start ?_)
        simp only [Try.f10, go_sem]
        repeat' first
          | refine Z0 ?_
          | refine Zx ?_
          | refine Zc c0 ?_
          | refine Zc cs ?_
          | refine Zc c1 ?_
          | (refine Ze ?_; clear hK K)
          | refine W_reg fun K hK => ?_
          | refine W_drwR rfl mixed (by decide +kernel) fun K hK => ?_
          | refine W_drw mixed (by decide +kernel) fun K hK => ?_
          | (refine Zb ?_ ?_ <;> intro hb <;> first | (simp (disch := omega) only [go_sem] at hb; done) | (simp (disch := omega) only [go_sem] at hb; try omega) | try omega)
          | (refine Zl ?_; intro bn hnil; (try simp (disch := omega) only [go_sem] at hnil); dsimp only [putT, List.set_cons_succ, List.set_cons_zero])
        refine W_foldK (fun (a : Nat × Bool) => [none, none, none, none, some .junk, none, some (.bool a.2), some (.int .i64 a.1), some .junk, some .junk, some .junk, none, none, none, none, none, none, none, none, none, none, none, none, none, some .junk, some .junk, some .junk, some .junk, some .junk, some .junk, some .junk, some .junk, some .junk, some .junk, some .junk, some .junk, some .junk, some .junk, some .junk, some .junk, some .junk, some .junk, some .junk, some .junk, some .junk, some .junk, some .junk, some .junk, some .junk, some .junk, some .junk, some .junk, some .junk, some .junk, some .junk, some .junk, some .junk, some .junk, some .junk, some .junk, some .junk, some .junk, some .junk, some .junk, some .junk, some .junk, some .junk, some .junk, some .junk, some .junk, some .junk, some .junk, some .junk, some .junk, some .junk, some .junk, some .junk, some .junk, some .junk, some .junk, some .junk, some .junk, some .junk, some .junk, some .junk, some .junk, some .junk, some .junk, some .junk, some .junk, some .junk, some .junk, some .junk]) (fun a => a.1 ≤ hand.length ∧ a.2 = decide (i0 < a.1)) (fun a => hand.length - a.1) (0, false) ⟨by simp, by simp⟩ (by exact weak_mk wkD wkH wkN wkM (by omega)) ?_
        rintro ⟨i, p⟩ ⟨hi, hp⟩
        simp only [] at hi hp
        simp only [msk_none, msk_some, msk_nil]
        rcases Nat.lt_or_ge i hand.length with h4 | h4
        · obtain ⟨h, hx⟩ := some_of_lt h4
          by_cases o1 : 0 ≤ h ∧ h < f.open_ ∧ h < f.lanes.length
          · have o2 : okHand f h = true := decide_eq_true o1
            obtain ⟨q1, q2, q3⟩ := o1
            have cx := seats_ok (laneAt f h) (Nat.le_trans (hf.at h).2 (by omega))
            have hz := laneAt_get q1 q3
            obtain ⟨m, rfl⟩ : ∃ m : Nat, h = m := ⟨h.toNat, by omega⟩
            rw [Int.toNat_natCast] at hz
            have d1 := e4 i m hx o2
            rcases Nat.lt_trichotomy i i0 with h6 | h6 | h6
            · have d2 := e5 i m h6 hx o2
              obtain rfl : p = false := by rw [hp]; simp; omega
              have d3 : ¬ m = k := fun e => by subst e; omega
              have zz1 := rws_get hx
              have zz2 := rws_get hz
              have zz3 := rws_get hy
              repeat' first
                | refine Z3 ?_
                | refine Zx ?_
                | refine Zc cx ?_
                | refine Zc cy ?_
                | (refine Ze ?_; clear hK K)
                | refine W_reg fun K hK => ?_
                | refine W_drwR rfl mixed (by decide +kernel) fun K hK => ?_
                | refine W_drw mixed (by decide +kernel) fun K hK => ?_
                | (refine Zb ?_ ?_ <;> intro hb <;> first | (simp (disch := omega) only [go_sem, zz1, zz2, zz3] at hb; done) | (simp (disch := omega) only [go_sem, zz1, zz2, zz3] at hb; try omega) | try omega)
                | (refine Zl ?_; intro bn hnil; (try simp (disch := omega) only [go_sem, zz1, zz2, zz3] at hnil); dsimp only [putT, List.set_cons_succ, List.set_cons_zero])
              all_goals exact L_next ⟨(i + 1, false), by simp; omega, ⟨by simp; omega, by simp; omega⟩, (by exact weak_mk wkD wkH wkN wkM (by omega))⟩
            · subst h6
              rw [hx] at e3
              injection e3 with e3
              obtain rfl : m = k := by omega
              obtain rfl : p = false := by rw [hp]; simp
              have zz1 := rws_get hx
              have zz2 := rws_get hz
              repeat' first
                | refine Z2 ?_
                | refine Zx ?_
                | refine Zc cx ?_
                | (refine Ze ?_; clear hK K)
                | refine W_reg fun K hK => ?_
                | refine W_drwR rfl mixed (by decide +kernel) fun K hK => ?_
                | refine W_drw mixed (by decide +kernel) fun K hK => ?_
                | (refine Zb ?_ ?_ <;> intro hb <;> first | (simp (disch := omega) only [go_sem, zz1, zz2] at hb; done) | (simp (disch := omega) only [go_sem, zz1, zz2] at hb; try omega) | try omega)
                | (refine Zl ?_; intro bn hnil; (try simp (disch := omega) only [go_sem, zz1, zz2] at hnil); dsimp only [putT, List.set_cons_succ, List.set_cons_zero])
              all_goals exact L_next ⟨(i + 1, true), by simp; omega, ⟨by simp; omega, by simp⟩, (by exact weak_mk wkD wkH wkN wkM (by omega))⟩
            · obtain rfl : p = true := by rw [hp]; simp; omega
              have zz1 := rws_get hx
              have zz2 := rws_get hz
              have zz3 := rws_get hy
              repeat' first
                | refine Z3 ?_
                | refine Zx ?_
                | refine Zc cx ?_
                | refine Zc cy ?_
                | (refine Ze ?_; clear hK K)
                | refine W_reg fun K hK => ?_
                | refine W_drwR rfl mixed (by decide +kernel) fun K hK => ?_
                | refine W_drw mixed (by decide +kernel) fun K hK => ?_
                | (refine Zb ?_ ?_ <;> intro hb <;> first | (simp (disch := omega) only [go_sem, zz1, zz2, zz3] at hb; done) | (simp (disch := omega) only [go_sem, zz1, zz2, zz3] at hb; try omega) | try omega)
                | (refine Zl ?_; intro bn hnil; (try simp (disch := omega) only [go_sem, zz1, zz2, zz3] at hnil); dsimp only [putT, List.set_cons_succ, List.set_cons_zero])
              all_goals exact L_next ⟨(i + 1, true), by simp; omega, ⟨by simp; omega, by simp; omega⟩, (by exact weak_mk wkD wkH wkN wkM (by omega))⟩
          · have d1 : decide (i0 < i + 1) = decide (i0 < i) := by
              have : ¬ i0 = i := fun e => by
                subst e
                rw [hx] at e3
                injection e3 with e3
                subst e3
                exact o1 o3
              by_cases h7 : i0 < i
              · simp [h7]; omega
              · simp [h7]; omega
            have zz1 := rws_get hx
            repeat' first
              | refine Z1 ?_
              | refine Zx ?_
              | (refine Ze ?_; clear hK K)
              | refine W_reg fun K hK => ?_
              | refine W_drwR rfl mixed (by decide +kernel) fun K hK => ?_
              | refine W_drw mixed (by decide +kernel) fun K hK => ?_
              | (refine Zb ?_ ?_ <;> intro hb <;> first | (simp (disch := omega) only [go_sem, zz1] at hb; done) | (simp (disch := omega) only [go_sem, zz1] at hb; try omega) | try omega)
              | (refine Zl ?_; intro bn hnil; (try simp (disch := omega) only [go_sem, zz1] at hnil); dsimp only [putT, List.set_cons_succ, List.set_cons_zero])
            all_goals first | (exfalso; omega) | skip
            all_goals exact L_next ⟨(i + 1, p), by simp; omega, ⟨by simp; omega, by rw [hp, d1]⟩, (by exact weak_mk wkD wkH wkN wkM (by omega))⟩
        · obtain rfl : p = true := by rw [hp]; simp; omega
          repeat' first
            | refine Z0 ?_
            | refine Zx ?_
            | (refine Ze ?_; clear hK K)
            | refine W_reg fun K hK => ?_
            | refine W_drwR rfl mixed (by decide +kernel) fun K hK => ?_
            | refine W_drw mixed (by decide +kernel) fun K hK => ?_
            | (refine Zb ?_ ?_ <;> intro hb <;> first | (simp (disch := omega) only [go_sem] at hb; done) | (simp (disch := omega) only [go_sem] at hb; try omega) | try omega)
            | (refine Zl ?_; intro bn hnil; (try simp (disch := omega) only [go_sem] at hnil); dsimp only [putT, List.set_cons_succ, List.set_cons_zero])
          exact Zr
  · have hs := Bool.eq_false_iff.2 hs
    rw [hs] at cs
    refine PCall_intro (c := Try.f10.body.getD .skip) Try.func10 rfl (by decide +kernel) Zf (W_start ?_)
    simp only [Try.f10, go_sem]
    repeat' first
      | refine Z0 ?_
      | refine Zx ?_
      | refine Zc c0 ?_
      | refine Zc cs ?_
      | (refine Ze ?_; clear hK K)
      | refine W_reg fun K hK => ?_
      | refine W_drwR rfl mixed (by decide +kernel) fun K hK => ?_
      | refine W_drw mixed (by decide +kernel) fun K hK => ?_
      | (refine Zb ?_ ?_ <;> intro hb <;> first | (simp (disch := omega) only [go_sem] at hb; done) | (simp (disch := omega) only [go_sem] at hb; try omega) | try omega)
      | (refine Zl ?_; intro bn hnil; (try simp (disch := omega) only [go_sem] at hnil); dsimp only [putT, List.set_cons_succ, List.set_cons_zero])
    exact Zr

/-- The first of a lane. -/
theorem first_row (l : TLane) (t : TTicket) (w : List TTicket) (h : l.wait = t :: w) : (rws l.wait)[0]? = some (Enc.enc t) := by rw [h]; rfl

theorem fairGone_ok (f : TFair) (id : Int) (hw : f.wf) : PCall Try.prog 13 [.agg (Enc.enc f), .int .i64 id] (· = .bool true) := by
  have c0 := awake22_ok
  have cs := small_ok f hw
  by_cases hs : smallB f = true
  · rw [hs] at cs
    have hf := small_okF hw hs
    have hf2 := hf.mono (n' := 1000) (m' := 1000) (by omega) (by omega)
    have c1 := waiting_ok f hf2
    rcases Int.lt_or_le 100 (waiting f) with h1 | h1
    · refine PCall_intro (c := Try.f13.body.getD .skip) Try.func13 rfl (by decide +kernel) Zf (W_start ?_)
      simp only [Try.f13, go_sem]
      repeat' first
        | refine Z0 ?_
        | refine Zx ?_
        | refine Zc c0 ?_
        | refine Zc cs ?_
        | refine Zc c1 ?_
        | (refine Ze ?_; clear hK K)
        | refine W_reg fun K hK => ?_
        | refine W_drwR rfl mixed (by decide +kernel) fun K hK => ?_
        | refine W_drw mixed (by decide +kernel) fun K hK => ?_
        | (refine Zb ?_ ?_ <;> intro hb <;> first | (simp (disch := omega) only [go_sem] at hb; done) | (simp (disch := omega) only [go_sem] at hb; try omega) | try omega)
        | (refine Zl ?_; intro bn hnil; (try simp (disch := omega) only [go_sem] at hnil); dsimp only [putT, List.set_cons_succ, List.set_cons_zero])
      exact Zr
    · have c2 := fdrop_ok f id hf2
      have hg := okF_drop hf id
      have hnn := waiting_nn f
      have hnng := waiting_nn (fdrop f id).1
      rcases drop_spec f id with ⟨h2, h3⟩ | ⟨h2, h3, h4⟩
      · have c3 := fsame_ok f f hf2 hf2
        rw [decide_eq_true rfl] at c3
        generalize fdrop f id = D at *
        obtain ⟨D, t, ok⟩ := D
        dsimp only at h2 h3 c2
        subst h2 h3
        simp only [fairV] at c2
        refine PCall_intro (c := Try.f13.body.getD .skip) Try.func13 rfl (by decide +kernel) Zf (W_start ?_)
        simp only [Try.f13, go_sem]
        repeat' first
          | refine Z0 ?_
          | refine Zx ?_
          | refine Zc c0 ?_
          | refine Zc cs ?_
          | refine Zc c1 ?_
          | refine Zc c2 ?_
          | refine Zc c3 ?_
          | (refine Ze ?_; clear hK K)
          | refine W_reg fun K hK => ?_
          | refine W_drwR rfl mixed (by decide +kernel) fun K hK => ?_
          | refine W_drw mixed (by decide +kernel) fun K hK => ?_
          | (refine Zb ?_ ?_ <;> intro hb <;> first | (simp (disch := omega) only [go_sem] at hb; done) | (simp (disch := omega) only [go_sem] at hb; try omega) | try omega)
          | (refine Zl ?_; intro bn hnil; (try simp (disch := omega) only [go_sem] at hnil); dsimp only [putT, List.set_cons_succ, List.set_cons_zero])
        exact Zr
      · generalize fdrop f id = D at *
        obtain ⟨D, t, ok⟩ := D
        dsimp only at h2 h3 h4 c2 hg hnng
        subst h2 h3
        simp only [fairV] at c2
        have c3 := waiting_ok D (hg.mono (by omega) (by omega))
        rw [h4] at c3
        obtain ⟨n, hn⟩ : ∃ n : Nat, waiting f - 1 = n := ⟨(waiting f - 1).toNat, by omega⟩
        rw [hn] at c3 h4
        have hn2 : waiting f = (n : Int) + 1 := by omega
        rw [hn2] at c1
        refine PCall_intro (c := Try.f13.body.getD .skip) Try.func13 rfl (by decide +kernel) Zf (W_start ?_)
        simp only [Try.f13, go_sem]
        repeat' first
          | refine Z0 ?_
          | refine Zx ?_
          | refine Zc c0 ?_
          | refine Zc cs ?_
          | refine Zc c1 ?_
          | refine Zc c2 ?_
          | refine Zc c3 ?_
          | (refine Ze ?_; clear hK K)
          | refine W_reg fun K hK => ?_
          | refine W_drwR rfl mixed (by decide +kernel) fun K hK => ?_
          | refine W_drw mixed (by decide +kernel) fun K hK => ?_
          | (refine Zb ?_ ?_ <;> intro hb <;> first | (simp (disch := omega) only [go_sem] at hb; done) | (simp (disch := omega) only [go_sem] at hb; try omega) | try omega)
          | (refine Zl ?_; intro bn hnil; (try simp (disch := omega) only [go_sem] at hnil); dsimp only [putT, List.set_cons_succ, List.set_cons_zero])
        refine W_foldM (fun (a : Nat × TFair) => [none, none, none, none, some .junk, none, none, none, none, some (.int .i64 a.1), some .junk, some .junk, some .junk, some .junk, some .junk, some .junk, none, none, none, none, none, none, none, none, none, none, none, none, none, none, none, none, none, none, none, none, none, none, none, none, none, none, none, none, none, none, none, none, none, none, none, none, some .junk, some .junk, some .junk, some .junk, some .junk, some .junk, some .junk, some .junk, some .junk, some .junk, some .junk, some .junk, some .junk, some .junk, some .junk, some .junk, some .junk, some .junk, some .junk, some .junk, some .junk, some .junk, some .junk, some .junk, some .junk, some .junk, some .junk, some .junk, some .junk, some .junk, some .junk, some .junk, some .junk, some .junk, some .junk, some .junk, some .junk, some .junk, some .junk, some .junk, some .junk, some .junk, some .junk, some .junk, some .junk, some .junk, some .junk, some .junk, some .junk, some .junk, some .junk, some .junk, some .junk, some .junk, some .junk, some .junk, some .junk, some .junk, some .junk, some .junk]) (fun a => [(20, .arr 5 [[.int .i64 t.iD, .int .i64 t.width, .int .i64 t.seats, .int .i64 t.since, .int .i64 t.until_]]), (19, .arr 5 [[.int .u64 a.2.r, .int .i64 a.2.guess, .int .i64 a.2.length, .int .i64 a.2.open_, .sl (rws a.2.lanes) none]]), (0, .arr 5 [[.int .u64 f.r, .int .i64 f.guess, .int .i64 f.length, .int .i64 f.open_, .sl (rws f.lanes) none]])])
          (fun a => a.1 ≤ n ∧ okF 100 100 a.2 ∧ waiting a.2 = (n : Int) - a.1) (fun a => n - a.1) (0, D) ⟨by simp, hg, by simp [h4]⟩ (by exact weak_mk wkD wkH wkN wkM (by omega)) ?_
        rintro ⟨i, F⟩ ⟨hi, hF, hW⟩
        simp only [] at hi hF hW
        simp only [msk_none, msk_some, msk_nil]
        have hF2 := hF.mono (n' := 1000) (m' := 1000) (by omega) (by omega)
        rcases Nat.lt_or_ge i n with h6 | h6
        · have d1 := next_ok F hF2
          have d2 := ftake_ok F hF2
          have hF3 := okF_take hF
          rcases take_spec F with ⟨_, e2, _⟩ | ⟨k, l, x, w, e1, e2, e3, e4, e5, e6, e7⟩
          · exfalso; omega
          · rw [e1, show max (k : Int) 0 = k by omega] at d1
            have hk := (List.getElem?_eq_some_iff.1 e2).1
            have d3 := waiting_ok (ftake F).1 (hF3.mono (by omega) (by omega))
            rw [e5, hW] at d3
            clear e7
            generalize ftake F = T at *
            obtain ⟨T, y, ok⟩ := T
            simp only [Prod.mk.injEq] at e4
            obtain ⟨rfl, rfl⟩ := e4
            dsimp only at d2 d3 e5 hF3
            simp only [fairV] at d2
            have hl := (hF.2 l (List.mem_of_getElem? e2)).2
            have hr := first_row l y w e3
            have hl2 : l.wait.length = w.length + 1 := by rw [e3]; rfl
            have zz1 := rws_get e2
            have zz2 := hr
            repeat' first
              | refine Z2 ?_
              | refine Zx ?_
              | refine Zc d1 ?_
              | refine Zc d2 ?_
              | refine Zc d3 ?_
              | (refine Ze ?_; clear hK K)
              | refine W_reg fun K hK => ?_
              | refine W_drwR rfl mixed (by decide +kernel) fun K hK => ?_
              | refine W_drw mixed (by decide +kernel) fun K hK => ?_
              | (refine Zb ?_ ?_ <;> intro hb <;> first | (simp (disch := omega) only [go_sem, zz1, zz2] at hb; done) | (simp (disch := omega) only [go_sem, zz1, zz2] at hb; try omega) | try omega)
              | (refine Zl ?_; intro bn hnil; (try simp (disch := omega) only [go_sem, zz1, zz2] at hnil); dsimp only [putT, List.set_cons_succ, List.set_cons_zero])
            exact L_next ⟨(i + 1, T), by simp; omega, ⟨by simp; omega, hF3, by simp; omega⟩, (by exact weak_mk wkD wkH wkN wkM (by omega))⟩
        · have hz : waiting F = 0 := by omega
          have d1 := waiting_ok F hF2
          have d2 := fseats_ok F hF2
          rw [hz] at d1
          rw [fseats_none (waiting_zero hz)] at d2
          repeat' first
            | refine Z0 ?_
            | refine Zx ?_
            | refine Zc d1 ?_
            | refine Zc d2 ?_
            | (refine Ze ?_; clear hK K)
            | refine W_reg fun K hK => ?_
            | refine W_drwR rfl mixed (by decide +kernel) fun K hK => ?_
            | refine W_drw mixed (by decide +kernel) fun K hK => ?_
            | (refine Zb ?_ ?_ <;> intro hb <;> first | (simp (disch := omega) only [go_sem] at hb; done) | (simp (disch := omega) only [go_sem] at hb; try omega) | try omega)
            | (refine Zl ?_; intro bn hnil; (try simp (disch := omega) only [go_sem] at hnil); dsimp only [putT, List.set_cons_succ, List.set_cons_zero])
          exact Zr
  · have hs := Bool.eq_false_iff.2 hs
    rw [hs] at cs
    refine PCall_intro (c := Try.f13.body.getD .skip) Try.func13 rfl (by decide +kernel) Zf (W_start ?_)
    simp only [Try.f13, go_sem]
    repeat' first
      | refine Z0 ?_
      | refine Zx ?_
      | refine Zc c0 ?_
      | refine Zc cs ?_
      | (refine Ze ?_; clear hK K)
      | refine W_reg fun K hK => ?_
      | refine W_drwR rfl mixed (by decide +kernel) fun K hK => ?_
      | refine W_drw mixed (by decide +kernel) fun K hK => ?_
      | (refine Zb ?_ ?_ <;> intro hb <;> first | (simp (disch := omega) only [go_sem] at hb; done) | (simp (disch := omega) only [go_sem] at hb; try omega) | try omega)
      | (refine Zl ?_; intro bn hnil; (try simp (disch := omega) only [go_sem] at hnil); dsimp only [putT, List.set_cons_succ, List.set_cons_zero])
    exact Zr

end Go.Proofs.Ytdgjelfeclgolaa
