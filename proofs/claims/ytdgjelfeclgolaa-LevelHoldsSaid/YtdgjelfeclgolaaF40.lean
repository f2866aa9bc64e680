/-
  A level's laws: LevelHolds; walked.
-/
import Derived.Test.YtdgjelfeclgolaaM24
namespace Go.Proofs.Ytdgjelfeclgolaa
open Go Go.AM
set_option maxHeartbeats 8000000
set_option maxRecDepth 8000
set_option linter.unusedSimpArgs false
set_option linter.unusedVariables false

theorem levelHolds_ok (lv : TLevel) (l : List TOp23) (hl : l.length ≤ maxLen) (hw : ∀ x, x ∈ l → x.wf) : PCall Try.prog 16 [.agg (Enc.enc lv), .sl (rws l) none] (· = .bool true) := by
  have c0 := awake23_ok
  unfold maxLen at hl
  have a1 := lopen_ok lv
  have a2 := lopen_keep lv
  generalize lopen lv = A at *
  refine PCall_intro (c := Try.f16.body.getD .skip) Try.func16 rfl (by decide +kernel) Zf (W_start ?_)
  simp only [Try.f16, go_sem]
  repeat' first
    | refine Z0 ?_
    | refine Zx ?_
    | refine Zc c0 ?_
    | refine Zc a1 ?_
    | (refine Ze ?_; clear hK K)
    | refine W_reg fun K hK => ?_
    | refine W_drwR rfl mixed (by decide +kernel) fun K hK => ?_
    | refine W_drw mixed (by decide +kernel) fun K hK => ?_
    | (refine Zb ?_ ?_ <;> intro hb <;> first | (simp (disch := omega) only [go_sem] at hb; done) | (simp (disch := omega) only [go_sem] at hb; try omega) | try omega)
    | (refine Zl ?_; intro bn hnil; (try simp (disch := omega) only [go_sem] at hnil); dsimp only [putT, List.set_cons_succ, List.set_cons_zero])
  refine W_foldM (fun (a : Nat × TState) => [none, none, none, none, some .junk, none, some (.int .i64 a.1), some .junk, some .junk, some .junk, some .junk, some .junk, some .junk, none, none, none, none, some .junk, some .junk, some .junk, some .junk, some .junk, some .junk, some .junk, some .junk, some .junk, some .junk, some .junk, some .junk, some .junk, some .junk, some .junk, some .junk, some .junk, some .junk, some .junk, some .junk, some .junk, some .junk, some .junk, some .junk, some .junk, some .junk, some .junk, some .junk, some .junk, some .junk, some .junk, some .junk, some .junk, some .junk, some .junk, some .junk, some .junk, some .junk, some .junk, some .junk, some .junk, some .junk, some .junk, some .junk, some .junk, some .junk, some .junk, some .junk, some .junk, some .junk, some .junk, some .junk, some .junk, some .junk, some .junk, some .junk, some .junk, some .junk, some .junk, some .junk, some .junk, some .junk, some .junk, some .junk, some .junk]) (fun a => [(6, .arr 23 [stR a.2 (.sl (rws a.2.running) none)])])
    (fun a => a.1 ≤ l.length ∧ a.1 ≤ 100 ∧ keeps a.1 a.2) (fun a => l.length - a.1) (0, A) ⟨by simp, by simp, a2⟩ (by exact weak_mk wkD wkH wkN wkM (by omega)) ?_
  clear c0 a1 a2
  rintro ⟨i, s⟩ ⟨hi, h100, hs⟩
  simp only [] at hi h100 hs
  simp only [msk_none, msk_some, msk_nil]
  rcases Nat.lt_or_ge i l.length with h4 | h4
  · rcases Nat.lt_or_ge i 100 with h5 | h5
    · obtain ⟨o, ho⟩ := some_of_lt h4
      have how := hw o (List.mem_of_getElem? ho)
      have k1 := stepN_keep (o := o) hs h100 how.2.2.2.1.2
      have k2 := stepN_holds (s := s) o
      have k3 := stepN_ends (s := s) (o := o)
      have c1 := step_ok s o (hs.f.mono (by omega) (by omega)) (by have := hs.r; omega) hs.l how.2.2.1.1
      have c2 := lruns_ok s (by have := hs.r; omega)
      have c3 := lruns_ok (stepN s o).1 (by have := k1.r; omega)
      have c4 := next_ok (stepN s o).1.fair (k1.f.mono (by omega) (by omega))
      have c5 := fun w => lfits_ok (stepN s o).1 w (by have := k1.r; omega) k1.l
      have b2 := runsL_le s.running
      have b3 := runsL_le (stepN s o).1.running
      generalize stepN s o = R at *
      obtain ⟨B, W⟩ := R
      simp only [stL] at c1 k1 k2 k3 c3 c4 c5 b3
      generalize runsL s.running = Ra at *
      generalize runsL B.running = Rb at *
      have hmx : s.level.kind ≠ 1 → ¬ Rb > max B.limit Ra := fun h => by have := k2 h; omega
      clear k2
      by_cases hd : d8 o = 2
      · have k3 := fun (k : Nat) l t w => k3 hd (k := k) (l := l) (t := t) (w := w)
        rcases next_cases B.fair with ⟨h1, _⟩ | ⟨k, x, t, w, h1, hx, h3, h6, _⟩
        · rw [h1, show max (-1 : Int) 0 = 0 by rfl, show decide ((0 : Int) ≤ -1) = false by rfl] at c4
          clear k3
          by_cases hk : s.level.kind = 1
          · have zz1 := rws_get ho
            have zz2 := hd
            repeat' first
              | refine Z2 ?_
              | refine Zx ?_
              | refine Zc c1 ?_
              | refine Zc c4 ?_
              | (refine Ze ?_; clear hK K)
              | refine W_reg fun K hK => ?_
              | refine W_drwR rfl mixed (by decide +kernel) fun K hK => ?_
              | refine W_drw mixed (by decide +kernel) fun K hK => ?_
              | (refine Zb ?_ ?_ <;> intro hb <;> first | (simp (disch := omega) only [go_sem, zz1, zz2] at hb; done) | (simp (disch := omega) only [go_sem, zz1, zz2] at hb; try omega) | try omega)
              | (refine Zl ?_; intro bn hnil; (try simp (disch := omega) only [go_sem, zz1, zz2] at hnil); dsimp only [putT, List.set_cons_succ, List.set_cons_zero])
            all_goals exact L_next ⟨(i + 1, B), by simp; omega, ⟨by simp; omega, by simp; omega, k1⟩, (by exact weak_mk wkD wkH wkN wkM (by omega))⟩
          · have hmx := hmx hk
            have zz1 := rws_get ho
            have zz2 := hd
            have zz3 := hmx
            repeat' first
              | refine Z3 ?_
              | refine Zx ?_
              | refine Zc c1 ?_
              | refine Zc c2 ?_
              | refine Zc c3 ?_
              | refine Zc c4 ?_
              | (refine Ze ?_; clear hK K)
              | refine W_reg fun K hK => ?_
              | refine W_drwR rfl mixed (by decide +kernel) fun K hK => ?_
              | refine W_drw mixed (by decide +kernel) fun K hK => ?_
              | (refine Zb ?_ ?_ <;> intro hb <;> first | (simp (disch := omega) only [go_sem, zz1, zz2, zz3] at hb; done) | (simp (disch := omega) only [go_sem, zz1, zz2, zz3] at hb; try omega) | try omega)
              | (refine Zl ?_; intro bn hnil; (try simp (disch := omega) only [go_sem, zz1, zz2, zz3] at hnil); dsimp only [putT, List.set_cons_succ, List.set_cons_zero])
            all_goals exact L_next ⟨(i + 1, B), by simp; omega, ⟨by simp; omega, by simp; omega, k1⟩, (by exact weak_mk wkD wkH wkN wkM (by omega))⟩
        · have k4 := k3 k x t w h1 h3 h6
          have c5 := c5 t.width
          rw [k4] at c5
          generalize (fits B t.width).1 = n at *
          clear k3
          rw [h1, show max (k : Int) 0 = k by omega, show decide ((0 : Int) ≤ k) = true by simp] at c4
          have h7 : x.wait[0]? = some t := by rw [h3]; rfl
          have h8 : 0 < x.wait.length := by rw [h3]; simp
          have h9 := (List.getElem?_eq_some_iff.1 hx).1
          by_cases hk : s.level.kind = 1
          · have zz1 := rws_get ho
            have zz2 := hd
            have zz3 := rws_get hx
            have zz4 := rws_get h7
            repeat' first
              | refine Z4 ?_
              | refine Zx ?_
              | refine Zc c1 ?_
              | refine Zc c4 ?_
              | refine Zc c5 ?_
              | (refine Ze ?_; clear hK K)
              | refine W_reg fun K hK => ?_
              | refine W_drwR rfl mixed (by decide +kernel) fun K hK => ?_
              | refine W_drw mixed (by decide +kernel) fun K hK => ?_
              | (refine Zb ?_ ?_ <;> intro hb <;> first | (simp (disch := omega) only [go_sem, zz1, zz2, zz3, zz4] at hb; done) | (simp (disch := omega) only [go_sem, zz1, zz2, zz3, zz4] at hb; try omega) | try omega)
              | (refine Zl ?_; intro bn hnil; (try simp (disch := omega) only [go_sem, zz1, zz2, zz3, zz4] at hnil); dsimp only [putT, List.set_cons_succ, List.set_cons_zero])
            all_goals exact L_next ⟨(i + 1, B), by simp; omega, ⟨by simp; omega, by simp; omega, k1⟩, (by exact weak_mk wkD wkH wkN wkM (by omega))⟩
          · have hmx := hmx hk
            have zz1 := rws_get ho
            have zz2 := hd
            have zz3 := hmx
            have zz4 := rws_get hx
            have zz5 := rws_get h7
            repeat' first
              | refine Z5 ?_
              | refine Zx ?_
              | refine Zc c1 ?_
              | refine Zc c2 ?_
              | refine Zc c3 ?_
              | refine Zc c4 ?_
              | refine Zc c5 ?_
              | (refine Ze ?_; clear hK K)
              | refine W_reg fun K hK => ?_
              | refine W_drwR rfl mixed (by decide +kernel) fun K hK => ?_
              | refine W_drw mixed (by decide +kernel) fun K hK => ?_
              | (refine Zb ?_ ?_ <;> intro hb <;> first | (simp (disch := omega) only [go_sem, zz1, zz2, zz3, zz4, zz5] at hb; done) | (simp (disch := omega) only [go_sem, zz1, zz2, zz3, zz4, zz5] at hb; try omega) | try omega)
              | (refine Zl ?_; intro bn hnil; (try simp (disch := omega) only [go_sem, zz1, zz2, zz3, zz4, zz5] at hnil); dsimp only [putT, List.set_cons_succ, List.set_cons_zero])
            all_goals exact L_next ⟨(i + 1, B), by simp; omega, ⟨by simp; omega, by simp; omega, k1⟩, (by exact weak_mk wkD wkH wkN wkM (by omega))⟩
      · clear k3 c4 c5
        by_cases hk : s.level.kind = 1
        · have zz1 := rws_get ho
          have zz2 := hd
          repeat' first
            | refine Z2 ?_
            | refine Zx ?_
            | refine Zc c1 ?_
            | (refine Ze ?_; clear hK K)
            | refine W_reg fun K hK => ?_
            | refine W_drwR rfl mixed (by decide +kernel) fun K hK => ?_
            | refine W_drw mixed (by decide +kernel) fun K hK => ?_
            | (refine Zb ?_ ?_ <;> intro hb <;> first | (simp (disch := omega) only [go_sem, zz1, zz2] at hb; done) | (simp (disch := omega) only [go_sem, zz1, zz2] at hb; try omega) | try omega)
            | (refine Zl ?_; intro bn hnil; (try simp (disch := omega) only [go_sem, zz1, zz2] at hnil); dsimp only [putT, List.set_cons_succ, List.set_cons_zero])
          all_goals exact L_next ⟨(i + 1, B), by simp; omega, ⟨by simp; omega, by simp; omega, k1⟩, (by exact weak_mk wkD wkH wkN wkM (by omega))⟩
        · have hmx := hmx hk
          have zz1 := rws_get ho
          have zz2 := hd
          have zz3 := hmx
          repeat' first
            | refine Z3 ?_
            | refine Zx ?_
            | refine Zc c1 ?_
            | refine Zc c2 ?_
            | refine Zc c3 ?_
            | (refine Ze ?_; clear hK K)
            | refine W_reg fun K hK => ?_
            | refine W_drwR rfl mixed (by decide +kernel) fun K hK => ?_
            | refine W_drw mixed (by decide +kernel) fun K hK => ?_
            | (refine Zb ?_ ?_ <;> intro hb <;> first | (simp (disch := omega) only [go_sem, zz1, zz2, zz3] at hb; done) | (simp (disch := omega) only [go_sem, zz1, zz2, zz3] at hb; try omega) | try omega)
            | (refine Zl ?_; intro bn hnil; (try simp (disch := omega) only [go_sem, zz1, zz2, zz3] at hnil); dsimp only [putT, List.set_cons_succ, List.set_cons_zero])
          all_goals exact L_next ⟨(i + 1, B), by simp; omega, ⟨by simp; omega, by simp; omega, k1⟩, (by exact weak_mk wkD wkH wkN wkM (by omega))⟩
    · repeat' first
        | refine Z0 ?_
        | refine Zx ?_
        | (refine Ze ?_; clear hK K)
        | refine W_reg fun K hK => ?_
        | refine W_drwR rfl mixed (by decide +kernel) fun K hK => ?_
        | refine W_drw mixed (by decide +kernel) fun K hK => ?_
        | (refine Zb ?_ ?_ <;> intro hb <;> first | (simp (disch := omega) only [go_sem] at hb; done) | (simp (disch := omega) only [go_sem] at hb; try omega) | try omega)
        | (refine Zl ?_; intro bn hnil; (try simp (disch := omega) only [go_sem] at hnil); dsimp only [putT, List.set_cons_succ, List.set_cons_zero])
      exact Zr
  · repeat' first
      | refine Z0 ?_
      | refine Zx ?_
      | (refine Ze ?_; clear hK K)
      | refine W_reg fun K hK => ?_
      | refine W_drwR rfl mixed (by decide +kernel) fun K hK => ?_
      | refine W_drw mixed (by decide +kernel) fun K hK => ?_
      | (refine Zb ?_ ?_ <;> intro hb <;> first | (simp (disch := omega) only [go_sem] at hb; done) | (simp (disch := omega) only [go_sem] at hb; try omega) | try omega)
      | (refine Zl ?_; intro bn hnil; (try simp (disch := omega) only [go_sem] at hnil); dsimp only [putT, List.set_cons_succ, List.set_cons_zero])
    exact Zr

end Go.Proofs.Ytdgjelfeclgolaa
