/-
  A level's laws: small, awake; walked.
-/
import Derived.Test.YtdgjelfeclgolaaF36
namespace Go.Proofs.Ytdgjelfeclgolaa
open Go Go.AM
set_option maxHeartbeats 8000000
set_option maxRecDepth 8000
set_option linter.unusedSimpArgs false
set_option linter.unusedVariables false

def smallS (s : TState) : Bool := decide (s.fair.lanes.length ≤ 100 ∧ s.running.length ≤ 300) && ((s.fair.lanes.all fun l => decide (l.wait.length ≤ 100)) && decide (waiting s.fair ≤ 300))

theorem smallS_ok (s : TState) (hf : s.fair.wf) (hr : s.running.length ≤ maxLen) : PCall Try.prog 71 [.agg (Enc.enc s)] (· = .bool (smallS s)) := by
  have hf0 := hf
  obtain ⟨_, _, _, _, hf1, hf2⟩ := hf
  unfold maxLen at hf1 hr
  rcases Nat.lt_or_ge 100 s.fair.lanes.length with h1 | h1
  · rw [show smallS s = false by simp [smallS]; omega]
    refine PCall_intro (c := Try.f71.body.getD .skip) Try.func71 rfl (by decide +kernel) Zf (W_start ?_)
    simp only [Try.f71, go_sem]
    repeat' first
      | refine Z0 ?_
      | refine Zx ?_
      | (refine Ze ?_; clear hK K)
      | refine W_reg fun K hK => ?_
      | refine W_drwR rfl mixed (by decide +kernel) fun K hK => ?_
      | refine W_drw mixed (by decide +kernel) fun K hK => ?_
      | (refine Zb ?_ ?_ <;> intro hb <;> first | (simp (disch := omega) only [go_sem] at hb; done) | (simp (disch := omega) only [go_sem] at hb; try omega) | try omega)
      | (refine Zl ?_; intro bn hnil; (try simp (disch := omega) only [go_sem] at hnil); dsimp only [putT, List.set_cons_succ, List.set_cons_zero])
    all_goals exact Zr
  · rcases Nat.lt_or_ge 300 s.running.length with h2 | h2
    · rw [show smallS s = false by simp [smallS]; omega]
      refine PCall_intro (c := Try.f71.body.getD .skip) Try.func71 rfl (by decide +kernel) Zf (W_start ?_)
      simp only [Try.f71, go_sem]
      repeat' first
        | refine Z0 ?_
        | refine Zx ?_
        | (refine Ze ?_; clear hK K)
        | refine W_reg fun K hK => ?_
        | refine W_drwR rfl mixed (by decide +kernel) fun K hK => ?_
        | refine W_drw mixed (by decide +kernel) fun K hK => ?_
        | (refine Zb ?_ ?_ <;> intro hb <;> first | (simp (disch := omega) only [go_sem] at hb; done) | (simp (disch := omega) only [go_sem] at hb; try omega) | try omega)
        | (refine Zl ?_; intro bn hnil; (try simp (disch := omega) only [go_sem] at hnil); dsimp only [putT, List.set_cons_succ, List.set_cons_zero])
      all_goals exact Zr
    · have e0 : smallS s = ((s.fair.lanes.all fun l => decide (l.wait.length ≤ 100)) && decide (waiting s.fair ≤ 300)) := by simp [smallS, h1, h2]
      rw [e0]
      refine PCall_intro (c := Try.f71.body.getD .skip) Try.func71 rfl (by decide +kernel) Zf (W_start ?_)
      simp only [Try.f71, go_sem]
      repeat' first
        | refine Z0 ?_
        | refine Zx ?_
        | (refine Ze ?_; clear hK K)
        | refine W_reg fun K hK => ?_
        | refine W_drwR rfl mixed (by decide +kernel) fun K hK => ?_
        | refine W_drw mixed (by decide +kernel) fun K hK => ?_
        | (refine Zb ?_ ?_ <;> intro hb <;> first | (simp (disch := omega) only [go_sem] at hb; done) | (simp (disch := omega) only [go_sem] at hb; try omega) | try omega)
        | (refine Zl ?_; intro bn hnil; (try simp (disch := omega) only [go_sem] at hnil); dsimp only [putT, List.set_cons_succ, List.set_cons_zero])
      refine W_foldK (fun (i : Nat) => [none, none, some .junk, some (.int .i64 i), none, none, none, none, none, none, none, none, none, none, none, some .junk, some .junk, some .junk, some .junk, some .junk, some .junk, some .junk, some .junk, some .junk, some .junk, some .junk, some .junk, some .junk, some .junk, some .junk, some .junk, some .junk]) (fun i => i ≤ s.fair.lanes.length ∧ ∀ k l, k < i → s.fair.lanes[k]? = some l → (fun l : TLane => decide (l.wait.length ≤ 100)) l = true) (fun i => s.fair.lanes.length - i) 0 ⟨by omega, by omega⟩ (by exact weak_mk wkD wkH wkN wkM (by omega)) ?_
      rintro i ⟨hi, hyes⟩
      simp only [msk_none, msk_some, msk_nil]
      rcases Nat.lt_or_ge i s.fair.lanes.length with h4 | h4
      · obtain ⟨l, hx⟩ := some_of_lt h4
        have hw := (hf2 l (List.mem_of_getElem? hx)).2.1
        unfold maxLen at hw
        rcases Nat.lt_or_ge 100 l.wait.length with h5 | h5
        · rw [all_at (p := fun l : TLane => decide (l.wait.length ≤ 100)) hx (by simp; omega), Bool.false_and]
          have zz1 := rws_get hx
          repeat' first
            | refine Z1 ?_
            | refine Zx ?_
            | (refine Ze ?_; clear hK K)
            | refine W_reg fun K hK => ?_
            | refine W_drwR rfl mixed (by decide +kernel) fun K hK => ?_
            | refine W_drw mixed (by decide +kernel) fun K hK => ?_
            | (refine Zb ?_ ?_ <;> intro hb <;> first | (simp (disch := omega) only [go_sem, zz1] at hb; done) | (simp (disch := omega) only [go_sem, zz1] at hb; try omega) | try omega)
            | (refine Zl ?_; intro bn hnil; (try simp (disch := omega) only [go_sem, zz1] at hnil); dsimp only [putT, List.set_cons_succ, List.set_cons_zero])
          exact Zr
        · have zz1 := rws_get hx
          repeat' first
            | refine Z1 ?_
            | refine Zx ?_
            | (refine Ze ?_; clear hK K)
            | refine W_reg fun K hK => ?_
            | refine W_drwR rfl mixed (by decide +kernel) fun K hK => ?_
            | refine W_drw mixed (by decide +kernel) fun K hK => ?_
            | (refine Zb ?_ ?_ <;> intro hb <;> first | (simp (disch := omega) only [go_sem, zz1] at hb; done) | (simp (disch := omega) only [go_sem, zz1] at hb; try omega) | try omega)
            | (refine Zl ?_; intro bn hnil; (try simp (disch := omega) only [go_sem, zz1] at hnil); dsimp only [putT, List.set_cons_succ, List.set_cons_zero])
          exact L_next ⟨i + 1, by omega, ⟨by omega, yes_step hx (by simp; omega) hyes⟩, (by exact weak_mk wkD wkH wkN wkM (by omega))⟩
      · obtain rfl : i = s.fair.lanes.length := by omega
        have ha := all_none hyes
        have hk : smallB s.fair = true := by simp only [smallB, Bool.and_eq_true, decide_eq_true_eq]; exact ⟨h1, ha⟩
        rw [ha, Bool.true_and]
        have c2 := rwaiting_ok s.fair ((small_okF hf0 hk).mono (by omega) (by omega))
        by_cases h3 : waiting s.fair ≤ 300
        · rw [decide_eq_true h3]
          generalize waiting s.fair = W at *
          repeat' first
            | refine Z0 ?_
            | refine Zx ?_
            | refine Zc c2 ?_
            | (refine Ze ?_; clear hK K)
            | refine W_reg fun K hK => ?_
            | refine W_drwR rfl mixed (by decide +kernel) fun K hK => ?_
            | refine W_drw mixed (by decide +kernel) fun K hK => ?_
            | (refine Zb ?_ ?_ <;> intro hb <;> first | (simp (disch := omega) only [go_sem] at hb; done) | (simp (disch := omega) only [go_sem] at hb; try omega) | try omega)
            | (refine Zl ?_; intro bn hnil; (try simp (disch := omega) only [go_sem] at hnil); dsimp only [putT, List.set_cons_succ, List.set_cons_zero])
          exact Zr
        · rw [decide_eq_false h3]
          generalize waiting s.fair = W at *
          repeat' first
            | refine Z0 ?_
            | refine Zx ?_
            | refine Zc c2 ?_
            | (refine Ze ?_; clear hK K)
            | refine W_reg fun K hK => ?_
            | refine W_drwR rfl mixed (by decide +kernel) fun K hK => ?_
            | refine W_drw mixed (by decide +kernel) fun K hK => ?_
            | (refine Zb ?_ ?_ <;> intro hb <;> first | (simp (disch := omega) only [go_sem] at hb; done) | (simp (disch := omega) only [go_sem] at hb; try omega) | try omega)
            | (refine Zl ?_; intro bn hnil; (try simp (disch := omega) only [go_sem] at hnil); dsimp only [putT, List.set_cons_succ, List.set_cons_zero])
          exact Zr

abbrev wL0 : TLevel := ⟨⟨#[]⟩, 3, 0, 0, 0, 1, 0, 5, 0, 1⟩
abbrev wl (s : TState) (n : Int) : TState := ⟨s.level, s.quiet, n, s.bound, s.demand, s.fair, s.running⟩
theorem awake23_ok : PCall Try.prog 62 [] (· = .bool true) := by
  have c1 := lopen_ok wL0
  have h1 : okF 1000 1000 (lopen wL0).fair := okF_new (by omega) _ _ _
  have h2 : (lopen wL0).running.length ≤ 0 := by decide
  have e1 : (larrive (wl (lopen wL0) 3) ⟨7, 5, 0, 0, 0⟩ [0]).2 = 0 := by decide +kernel
  have k3 : (larrive (wl (lopen wL0) 3) ⟨7, 5, 0, 0, 0⟩ [0]).1.fair.lanes.length ≤ 1 ∧ (∀ x ∈ (larrive (wl (lopen wL0) 3) ⟨7, 5, 0, 0, 0⟩ [0]).1.fair.lanes, 0 ≤ x.start ∧ x.wait.length ≤ 1) := by decide +kernel
  have k4 : (larrive (wl (lopen wL0) 3) ⟨7, 5, 0, 0, 0⟩ [0]).1.running.length ≤ 0 ∧ (larrive (wl (lopen wL0) 3) ⟨7, 5, 0, 0, 0⟩ [0]).1.limit ≤ 3 := by decide +kernel
  have e2 : (ldispatch (larrive (wl (lopen wL0) 3) ⟨7, 5, 0, 0, 0⟩ [0]).1).2.length = 1 ∧ (ldispatch (larrive (wl (lopen wL0) 3) ⟨7, 5, 0, 0, 0⟩ [0]).1).1.running.length = 1 := by decide +kernel
  have e3 : ∃ x, (ldispatch (larrive (wl (lopen wL0) 3) ⟨7, 5, 0, 0, 0⟩ [0]).1).2[0]? = some x ∧ x.seats = 3 := ⟨⟨7, 5, 3, 0, 0⟩, by decide +kernel, rfl⟩
  generalize lopen wL0 = A at *
  have c2 := larrive_ok (wl A 3) ⟨7, 5, 0, 0, 0⟩ [0] h1 (by show A.running.length ≤ _; omega) (by show (3 : Int) ≤ _; omega) (by unfold maxLen; decide)
  simp only [stE] at c2
  generalize larrive (wl A 3) ⟨7, 5, 0, 0, 0⟩ [0] = R at *
  obtain ⟨B, e⟩ := R
  simp only [] at c2 e1 k3 k4 e2 e3
  subst e1
  have c3 := ldispatch_ok B ⟨by omega, fun x hx => ⟨(k3.2 x hx).1, by have := (k3.2 x hx).2; omega⟩⟩ (by omega) (by omega)
  simp only [stL] at c3
  generalize ldispatch B = R at *
  obtain ⟨C, W⟩ := R
  simp only [] at c3 e2 e3
  obtain ⟨e2, e4⟩ := e2
  obtain ⟨x, hx, hs⟩ := e3
  refine PCall_intro (c := Try.f62.body.getD .skip) Try.func62 rfl (by decide +kernel) Zf (W_start ?_)
  simp only [Try.f62, go_sem]
  repeat' first
    | refine Z0 ?_
    | refine Zx ?_
    | refine Zc c1 ?_
    | (refine Ze ?_; clear hK K)
    | refine W_reg fun K hK => ?_
    | refine W_drwR rfl mixed (by decide +kernel) fun K hK => ?_
    | refine W_drw mixed (by decide +kernel) fun K hK => ?_
    | (refine Zb ?_ ?_ <;> intro hb <;> first | (simp (disch := omega) only [go_sem] at hb; done) | (simp (disch := omega) only [go_sem] at hb; try omega) | try omega)
    | (refine Zl ?_; intro bn hnil; (try simp (disch := omega) only [go_sem] at hnil); dsimp only [putT, List.set_cons_succ, List.set_cons_zero])
  (apply AO_frzT 10 ([(0 : Int)]); (case ht => exact rfl); (case hl => simp only [go_sem]; exact rfl); (case e => first | rfl | (simp; done) | (simp [rws, Enc.enc]; done)); (case hn => first | rfl | simp); (case e1 => exact subT); (case e2 => exact subU))
  have zz1 := rws_get hx
  have zz2 := hs
  repeat' first
    | refine Z2 ?_
    | refine Zx ?_
    | refine Zc c2 ?_
    | refine Zc c3 ?_
    | (refine Ze ?_; clear hK K)
    | refine W_reg fun K hK => ?_
    | refine W_drwR rfl mixed (by decide +kernel) fun K hK => ?_
    | refine W_drw mixed (by decide +kernel) fun K hK => ?_
    | (refine Zb ?_ ?_ <;> intro hb <;> first | (simp (disch := omega) only [go_sem, zz1, zz2] at hb; done) | (simp (disch := omega) only [go_sem, zz1, zz2] at hb; try omega) | try omega)
    | (refine Zl ?_; intro bn hnil; (try simp (disch := omega) only [go_sem, zz1, zz2] at hnil); dsimp only [putT, List.set_cons_succ, List.set_cons_zero])
  exact Zr

end Go.Proofs.Ytdgjelfeclgolaa
