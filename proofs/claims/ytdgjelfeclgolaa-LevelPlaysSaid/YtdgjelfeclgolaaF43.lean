/-
  A level's laws: the reference's step; LevelPlays; walked.
-/
import Derived.Test.YtdgjelfeclgolaaM24
import Derived.Test.YtdgjelfeclgolaaF42
namespace Go.Proofs.Ytdgjelfeclgolaa
open Go Go.AM
set_option maxHeartbeats 8000000
set_option maxRecDepth 8000
set_option linter.unusedSimpArgs false
set_option linter.unusedVariables false

theorem told_ok (s : TState) (o : TOp23) (hf : okF 1000 1000 s.fair) (hr : s.running.length ≤ 900000) (hl : s.limit ≤ 9223372036854775807) (ho : o.hand.length ≤ maxLen) : PCall Try.prog 67 [.agg (Enc.enc s), .agg (Enc.enc o)] (· = stL (stepN s o)) := by
  unfold maxLen at ho
  obtain ⟨k, hk, hk2, r1, r2, r3⟩ := h20_len o
  unfold stepN
  generalize h20 o = H at *
  by_cases q0 : d8 o = 0 ∨ d8 o = 1
  · rw [if_pos q0]
    have c1 := sarrive_ok s o.t H hf (by omega) hl r3
    simp only [stE] at c1
    generalize larrive s o.t H = R at *
    obtain ⟨A, e⟩ := R
    simp only [] at c1 ⊢
    subst r2
    by_cases he : e = 0
    · rw [if_pos he]
      rcases q0 with hd | hd
      · refine PCall_intro (c := Try.f67.body.getD .skip) Try.func67 rfl (by decide +kernel) Zf (W_start ?_)
        simp only [Try.f67, go_sem]
        have zz1 := hk
        have zz2 := r1
        have zz3 := hd
        repeat' first | refine Z3 ?_ | refine Zx ?_ | refine Zc c1 ?_ | (refine Ze ?_; clear hK K) | refine W_reg fun K hK => ?_ | refine W_drwR rfl mixed (by decide +kernel) fun K hK => ?_ | refine W_drw mixed (by decide +kernel) fun K hK => ?_ | (refine Zb ?_ ?_ <;> intro hb <;> first | (simp (disch := omega) only [go_sem, zz1, zz2, zz3] at hb; done) | (simp (disch := omega) only [go_sem, zz1, zz2, zz3] at hb; try omega) | try omega) | (refine Zl ?_; intro bn hnil; (try simp (disch := omega) only [go_sem, zz1, zz2, zz3] at hnil); dsimp only [putT, List.set_cons_succ, List.set_cons_zero])
        all_goals exact Zr
      · refine PCall_intro (c := Try.f67.body.getD .skip) Try.func67 rfl (by decide +kernel) Zf (W_start ?_)
        simp only [Try.f67, go_sem]
        have zz1 := hk
        have zz2 := r1
        have zz3 := hd
        repeat' first | refine Z3 ?_ | refine Zx ?_ | refine Zc c1 ?_ | (refine Ze ?_; clear hK K) | refine W_reg fun K hK => ?_ | refine W_drwR rfl mixed (by decide +kernel) fun K hK => ?_ | refine W_drw mixed (by decide +kernel) fun K hK => ?_ | (refine Zb ?_ ?_ <;> intro hb <;> first | (simp (disch := omega) only [go_sem, zz1, zz2, zz3] at hb; done) | (simp (disch := omega) only [go_sem, zz1, zz2, zz3] at hb; try omega) | try omega) | (refine Zl ?_; intro bn hnil; (try simp (disch := omega) only [go_sem, zz1, zz2, zz3] at hnil); dsimp only [putT, List.set_cons_succ, List.set_cons_zero])
        all_goals exact Zr
    · rw [if_neg he]
      rcases q0 with hd | hd
      · refine PCall_intro (c := Try.f67.body.getD .skip) Try.func67 rfl (by decide +kernel) Zf (W_start ?_)
        simp only [Try.f67, go_sem]
        have zz1 := hk
        have zz2 := r1
        have zz3 := hd
        repeat' first | refine Z3 ?_ | refine Zx ?_ | refine Zc c1 ?_ | (refine Ze ?_; clear hK K) | refine W_reg fun K hK => ?_ | refine W_drwR rfl mixed (by decide +kernel) fun K hK => ?_ | refine W_drw mixed (by decide +kernel) fun K hK => ?_ | (refine Zb ?_ ?_ <;> intro hb <;> first | (simp (disch := omega) only [go_sem, zz1, zz2, zz3] at hb; done) | (simp (disch := omega) only [go_sem, zz1, zz2, zz3] at hb; try omega) | try omega) | (refine Zl ?_; intro bn hnil; (try simp (disch := omega) only [go_sem, zz1, zz2, zz3] at hnil); dsimp only [putT, List.set_cons_succ, List.set_cons_zero])
        all_goals exact Zr
      · refine PCall_intro (c := Try.f67.body.getD .skip) Try.func67 rfl (by decide +kernel) Zf (W_start ?_)
        simp only [Try.f67, go_sem]
        have zz1 := hk
        have zz2 := r1
        have zz3 := hd
        repeat' first | refine Z3 ?_ | refine Zx ?_ | refine Zc c1 ?_ | (refine Ze ?_; clear hK K) | refine W_reg fun K hK => ?_ | refine W_drwR rfl mixed (by decide +kernel) fun K hK => ?_ | refine W_drw mixed (by decide +kernel) fun K hK => ?_ | (refine Zb ?_ ?_ <;> intro hb <;> first | (simp (disch := omega) only [go_sem, zz1, zz2, zz3] at hb; done) | (simp (disch := omega) only [go_sem, zz1, zz2, zz3] at hb; try omega) | try omega) | (refine Zl ?_; intro bn hnil; (try simp (disch := omega) only [go_sem, zz1, zz2, zz3] at hnil); dsimp only [putT, List.set_cons_succ, List.set_cons_zero])
        all_goals exact Zr
  · rw [if_neg q0]
    by_cases q2 : d8 o = 2
    · rw [if_pos q2]
      have c1 := sdispatch_ok s hf hr hl
      generalize ldispatch s = R at *
      obtain ⟨A, W⟩ := R
      simp only [stL] at c1
      refine PCall_intro (c := Try.f67.body.getD .skip) Try.func67 rfl (by decide +kernel) Zf (W_start ?_)
      simp only [Try.f67, go_sem]
      have zz1 := hk
      have zz2 := r1
      have zz3 := q2
      repeat' first | refine Z3 ?_ | refine Zx ?_ | refine Zc c1 ?_ | (refine Ze ?_; clear hK K) | refine W_reg fun K hK => ?_ | refine W_drwR rfl mixed (by decide +kernel) fun K hK => ?_ | refine W_drw mixed (by decide +kernel) fun K hK => ?_ | (refine Zb ?_ ?_ <;> intro hb <;> first | (simp (disch := omega) only [go_sem, zz1, zz2, zz3] at hb; done) | (simp (disch := omega) only [go_sem, zz1, zz2, zz3] at hb; try omega) | try omega) | (refine Zl ?_; intro bn hnil; (try simp (disch := omega) only [go_sem, zz1, zz2, zz3] at hnil); dsimp only [putT, List.set_cons_succ, List.set_cons_zero])
      all_goals exact Zr
    · rw [if_neg q2]
      by_cases q3 : d8 o = 3
      · rw [if_pos q3]
        have c1 := sdone_ok s o.n hf (by omega)
        generalize ldone s o.n = R at *
        obtain ⟨A, t, e⟩ := R
        simp only [stT] at c1 ⊢
        by_cases he : e = 0
        · rw [if_pos he]
          refine PCall_intro (c := Try.f67.body.getD .skip) Try.func67 rfl (by decide +kernel) Zf (W_start ?_)
          simp only [Try.f67, go_sem]
          have zz1 := hk
          have zz2 := r1
          have zz3 := q3
          repeat' first | refine Zlit ?_ | refine Z3 ?_ | refine Zx ?_ | refine Zc c1 ?_ | (refine Ze ?_; clear hK K) | refine W_reg fun K hK => ?_ | refine W_drwR rfl mixed (by decide +kernel) fun K hK => ?_ | refine W_drw mixed (by decide +kernel) fun K hK => ?_ | (refine Zb ?_ ?_ <;> intro hb <;> first | (simp (disch := omega) only [go_sem, zz1, zz2, zz3] at hb; done) | (simp (disch := omega) only [go_sem, zz1, zz2, zz3] at hb; try omega) | try omega) | (refine Zl ?_; intro bn hnil; (try simp (disch := omega) only [go_sem, zz1, zz2, zz3] at hnil); dsimp only [putT, List.set_cons_succ, List.set_cons_zero])
          all_goals exact Zr
        · rw [if_neg he]
          refine PCall_intro (c := Try.f67.body.getD .skip) Try.func67 rfl (by decide +kernel) Zf (W_start ?_)
          simp only [Try.f67, go_sem]
          have zz1 := hk
          have zz2 := r1
          have zz3 := q3
          repeat' first | refine Zlit ?_ | refine Z3 ?_ | refine Zx ?_ | refine Zc c1 ?_ | (refine Ze ?_; clear hK K) | refine W_reg fun K hK => ?_ | refine W_drwR rfl mixed (by decide +kernel) fun K hK => ?_ | refine W_drw mixed (by decide +kernel) fun K hK => ?_ | (refine Zb ?_ ?_ <;> intro hb <;> first | (simp (disch := omega) only [go_sem, zz1, zz2, zz3] at hb; done) | (simp (disch := omega) only [go_sem, zz1, zz2, zz3] at hb; try omega) | try omega) | (refine Zl ?_; intro bn hnil; (try simp (disch := omega) only [go_sem, zz1, zz2, zz3] at hnil); dsimp only [putT, List.set_cons_succ, List.set_cons_zero])
          all_goals exact Zr
      · rw [if_neg q3]
        by_cases q4 : d8 o = 4
        · rw [if_pos q4]
          have c1 := sdrop_ok s o.n hf (by omega)
          generalize ldrop s o.n = R at *
          obtain ⟨A, t, e⟩ := R
          simp only [stT] at c1 ⊢
          by_cases he : e = 0
          · rw [if_pos he]
            refine PCall_intro (c := Try.f67.body.getD .skip) Try.func67 rfl (by decide +kernel) Zf (W_start ?_)
            simp only [Try.f67, go_sem]
            have zz1 := hk
            have zz2 := r1
            have zz3 := q4
            repeat' first | refine Zlit ?_ | refine Z3 ?_ | refine Zx ?_ | refine Zc c1 ?_ | (refine Ze ?_; clear hK K) | refine W_reg fun K hK => ?_ | refine W_drwR rfl mixed (by decide +kernel) fun K hK => ?_ | refine W_drw mixed (by decide +kernel) fun K hK => ?_ | (refine Zb ?_ ?_ <;> intro hb <;> first | (simp (disch := omega) only [go_sem, zz1, zz2, zz3] at hb; done) | (simp (disch := omega) only [go_sem, zz1, zz2, zz3] at hb; try omega) | try omega) | (refine Zl ?_; intro bn hnil; (try simp (disch := omega) only [go_sem, zz1, zz2, zz3] at hnil); dsimp only [putT, List.set_cons_succ, List.set_cons_zero])
            all_goals exact Zr
          · rw [if_neg he]
            refine PCall_intro (c := Try.f67.body.getD .skip) Try.func67 rfl (by decide +kernel) Zf (W_start ?_)
            simp only [Try.f67, go_sem]
            have zz1 := hk
            have zz2 := r1
            have zz3 := q4
            repeat' first | refine Zlit ?_ | refine Z3 ?_ | refine Zx ?_ | refine Zc c1 ?_ | (refine Ze ?_; clear hK K) | refine W_reg fun K hK => ?_ | refine W_drwR rfl mixed (by decide +kernel) fun K hK => ?_ | refine W_drw mixed (by decide +kernel) fun K hK => ?_ | (refine Zb ?_ ?_ <;> intro hb <;> first | (simp (disch := omega) only [go_sem, zz1, zz2, zz3] at hb; done) | (simp (disch := omega) only [go_sem, zz1, zz2, zz3] at hb; try omega) | try omega) | (refine Zl ?_; intro bn hnil; (try simp (disch := omega) only [go_sem, zz1, zz2, zz3] at hnil); dsimp only [putT, List.set_cons_succ, List.set_cons_zero])
            all_goals exact Zr
        · rw [if_neg q4]
          by_cases q5 : d8 o = 5
          · rw [if_pos q5]
            have c1 := slate_ok s o.n hf (by omega)
            generalize llate s o.n = R at *
            obtain ⟨A, W⟩ := R
            simp only [stL] at c1
            refine PCall_intro (c := Try.f67.body.getD .skip) Try.func67 rfl (by decide +kernel) Zf (W_start ?_)
            simp only [Try.f67, go_sem]
            have zz1 := hk
            have zz2 := r1
            have zz3 := q5
            repeat' first | refine Z3 ?_ | refine Zx ?_ | refine Zc c1 ?_ | (refine Ze ?_; clear hK K) | refine W_reg fun K hK => ?_ | refine W_drwR rfl mixed (by decide +kernel) fun K hK => ?_ | refine W_drw mixed (by decide +kernel) fun K hK => ?_ | (refine Zb ?_ ?_ <;> intro hb <;> first | (simp (disch := omega) only [go_sem, zz1, zz2, zz3] at hb; done) | (simp (disch := omega) only [go_sem, zz1, zz2, zz3] at hb; try omega) | try omega) | (refine Zl ?_; intro bn hnil; (try simp (disch := omega) only [go_sem, zz1, zz2, zz3] at hnil); dsimp only [putT, List.set_cons_succ, List.set_cons_zero])
            all_goals exact Zr
          · rw [if_neg q5]
            by_cases q6 : d8 o = 6
            · rw [if_pos q6]
              refine PCall_intro (c := Try.f67.body.getD .skip) Try.func67 rfl (by decide +kernel) Zf (W_start ?_)
              simp only [Try.f67, go_sem]
              have zz1 := hk
              have zz2 := r1
              have zz3 := q6
              repeat' first | refine Z3 ?_ | refine Zx ?_ | (refine Ze ?_; clear hK K) | refine W_reg fun K hK => ?_ | refine W_drwR rfl mixed (by decide +kernel) fun K hK => ?_ | refine W_drw mixed (by decide +kernel) fun K hK => ?_ | (refine Zb ?_ ?_ <;> intro hb <;> first | (simp (disch := omega) only [go_sem, zz1, zz2, zz3] at hb; done) | (simp (disch := omega) only [go_sem, zz1, zz2, zz3] at hb; try omega) | try omega) | (refine Zl ?_; intro bn hnil; (try simp (disch := omega) only [go_sem, zz1, zz2, zz3] at hnil); dsimp only [putT, List.set_cons_succ, List.set_cons_zero])
              all_goals exact Zr
            · rw [if_neg q6]
              have c1 := sturn_ok s o.level o.quiet hf (by omega)
              generalize lturn s o.level o.quiet = A at *
              have q00 : ¬ d8 o = 0 := fun h => q0 (.inl h)
              have q01 : ¬ d8 o = 1 := fun h => q0 (.inr h)
              refine PCall_intro (c := Try.f67.body.getD .skip) Try.func67 rfl (by decide +kernel) Zf (W_start ?_)
              simp only [Try.f67, go_sem]
              have zz1 := hk
              have zz2 := r1
              have zz3 := q00
              have zz4 := q01
              have zz5 := q2
              have zz6 := q3
              have zz7 := q4
              have zz8 := q5
              have zz9 := q6
              repeat' first | refine Z9 ?_ | refine Zx ?_ | refine Zc c1 ?_ | (refine Ze ?_; clear hK K) | refine W_reg fun K hK => ?_ | refine W_drwR rfl mixed (by decide +kernel) fun K hK => ?_ | refine W_drw mixed (by decide +kernel) fun K hK => ?_ | (refine Zb ?_ ?_ <;> intro hb <;> first | (simp (disch := omega) only [go_sem, zz1, zz2, zz3, zz4, zz5, zz6, zz7, zz8, zz9] at hb; done) | (simp (disch := omega) only [go_sem, zz1, zz2, zz3, zz4, zz5, zz6, zz7, zz8, zz9] at hb; try omega) | try omega) | (refine Zl ?_; intro bn hnil; (try simp (disch := omega) only [go_sem, zz1, zz2, zz3, zz4, zz5, zz6, zz7, zz8, zz9] at hnil); dsimp only [putT, List.set_cons_succ, List.set_cons_zero])
              all_goals exact Zr

theorem scopyP_ok (s : TState) (hf : okF 1000 1000 s.fair) (hr : s.running.length ≤ 2000000) : PCall Try.prog 65 [.agg (Enc.enc s)] (· = .agg (Enc.enc s)) := by
  have c1 := fcopyP_ok s.fair hf
  refine PCall_intro (c := Try.f65.body.getD .skip) Try.func65 rfl (by decide +kernel) Zf (W_start ?_)
  simp only [Try.f65, go_sem]
  repeat' first | refine Z0 ?_ | refine Zx ?_ | refine Zc c1 ?_ | (refine Ze ?_; clear hK K) | refine W_reg fun K hK => ?_ | refine W_drwR rfl mixed (by decide +kernel) fun K hK => ?_ | refine W_drw mixed (by decide +kernel) fun K hK => ?_ | (refine Zb ?_ ?_ <;> intro hb <;> first | (simp (disch := omega) only [go_sem] at hb; done) | (simp (disch := omega) only [go_sem] at hb; try omega) | try omega) | (refine Zl ?_; intro bn hnil; (try simp (disch := omega) only [go_sem] at hnil); dsimp only [putT, List.set_cons_succ, List.set_cons_zero])
  exact Zr

theorem ldispN_len : ∀ (n : Nat) (s : TState) (out : List TTicket), (ldispN n s out).2.length ≤ out.length + n
  | 0, s, out => by simp [ldispN]
  | n + 1, s, out => by
    rw [ldispN]
    split
    · have := ldispN_len n (withFair (withRun s (s.running ++ [seated (ftake s.fair).2.1 (fits s (ftake s.fair).2.1.width).1])) (ftake s.fair).1) (out ++ [seated (ftake s.fair).2.1 (fits s (ftake s.fair).2.1.width).1])
      simp only [List.length_append, List.length_cons, List.length_nil] at this
      omega
    · simp only []; omega
theorem stepN_len {i : Nat} {s : TState} (o : TOp23) (h : keeps i s) (hi : i ≤ 100) : (stepN s o).2.length ≤ 1000000 := by
  unfold stepN
  split
  · split
    · simp [noT]
    · simp [noT]
  · split
    · have h1 := ldispN_len (tot s.fair) s []
      have h2 := tot_le h.f
      simp only [List.length_nil] at h1
      unfold ldispatch
      omega
    · split
      · split
        · simp
        · simp [noT]
      · split
        · split
          · simp
          · simp [noT]
        · split
          · simp only [llate, ss_len]
            exact lateL_le (h.f.mono (by omega) (by omega)) _
          · split
            · simp [noT]
            · simp [noT]

theorem levelPlays_ok (lv : TLevel) (l : List TOp23) (hl : l.length ≤ maxLen) (hw : ∀ x, x ∈ l → x.wf) : PCall Try.prog 15 [.agg (Enc.enc lv), .sl (rws l) none] (· = .bool true) := by
  have c0 := awake23_ok
  unfold maxLen at hl
  have a1 := lopen_ok lv
  have a3 := sopen_ok lv
  have a2 := lopen_keep lv
  generalize lopen lv = A at *
  refine PCall_intro (c := Try.f15.body.getD .skip) Try.func15 rfl (by decide +kernel) Zf (W_start ?_)
  simp only [Try.f15, go_sem]
  repeat' first | refine Z0 ?_ | refine Zx ?_ | refine Zc c0 ?_ | refine Zc a1 ?_ | refine Zc a3 ?_ | (refine Ze ?_; clear hK K) | refine W_reg fun K hK => ?_ | refine W_drwR rfl mixed (by decide +kernel) fun K hK => ?_ | refine W_drw mixed (by decide +kernel) fun K hK => ?_ | (refine Zb ?_ ?_ <;> intro hb <;> first | (simp (disch := omega) only [go_sem] at hb; done) | (simp (disch := omega) only [go_sem] at hb; try omega) | try omega) | (refine Zl ?_; intro bn hnil; (try simp (disch := omega) only [go_sem] at hnil); dsimp only [putT, List.set_cons_succ, List.set_cons_zero])
  refine W_foldM (fun (a : Nat × TState) => [none, none, none, none, some .junk, none, none, some (.int .i64 a.1), some .junk, some .junk, some .junk, some .junk, some .junk, some .junk, none, none, none, none, none, none, some .junk, some .junk, some .junk, some .junk, some .junk, some .junk, some .junk, some .junk, some .junk, some .junk, some .junk, some .junk, some .junk, some .junk, some .junk, some .junk, some .junk, some .junk, some .junk, some .junk, some .junk, some .junk, some .junk, some .junk, some .junk, some .junk, some .junk, some .junk, some .junk, some .junk, some .junk, some .junk, some .junk, some .junk, some .junk, some .junk, some .junk, some .junk, some .junk, some .junk, some .junk, some .junk, some .junk, some .junk, some .junk, some .junk, some .junk, some .junk, some .junk]) (fun a => [(9, .arr 23 [stR a.2 (.sl (rws a.2.running) none)]), (8, .arr 23 [stR a.2 (.sl (rws a.2.running) none)])])
    (fun a => a.1 ≤ l.length ∧ a.1 ≤ 100 ∧ keeps a.1 a.2) (fun a => l.length - a.1) (0, A) ⟨by simp, by simp, a2⟩ (by exact weak_mk wkD wkH wkN wkM (by omega)) ?_
  clear c0 a1 a2 a3
  rintro ⟨i, s⟩ ⟨hi, h100, hs⟩
  simp only [] at hi h100 hs
  simp only [msk_none, msk_some, msk_nil]
  rcases Nat.lt_or_ge i l.length with h4 | h4
  · rcases Nat.lt_or_ge i 100 with h5 | h5
    · obtain ⟨o, ho⟩ := some_of_lt h4
      have how := hw o (List.mem_of_getElem? ho)
      have hf2 := hs.f.mono (n' := 1000) (m' := 1000) (by omega) (by omega)
      have hr2 : s.running.length ≤ 900000 := by have := hs.r; omega
      have k1 := stepN_keep (o := o) hs h100 how.2.2.2.1.2
      have k2 := stepN_len o hs h100
      have c1 := step_ok s o hf2 hr2 hs.l how.2.2.1.1
      have c2 := told_ok s o hf2 hr2 hs.l how.2.2.1.1
      have c3 := ssame_ok (stepN s o).1 (k1.f.mono (by omega) (by omega)) (by have := k1.r; omega)
      have c4 := sameT_ok (stepN s o).2 (stepN s o).2 (by omega) (by omega)
      have c5 := ssame_ok s hf2 (by omega)
      have c6 := scopyP_ok s hf2 (by omega)
      generalize stepN s o = R at *
      obtain ⟨B, W⟩ := R
      simp only [stL, decide_true] at c1 c2 c3 c4 k1
      have zz1 := rws_get ho
      repeat' first | refine Z1 ?_ | refine Zx ?_ | refine Zc c1 ?_ | refine Zc c2 ?_ | refine Zc c3 ?_ | refine Zc c4 ?_ | refine Zc c5 ?_ | refine Zc c6 ?_ | (refine Ze ?_; clear hK K) | refine W_reg fun K hK => ?_ | refine W_drwR rfl mixed (by decide +kernel) fun K hK => ?_ | refine W_drw mixed (by decide +kernel) fun K hK => ?_ | (refine Zb ?_ ?_ <;> intro hb <;> first | (simp (disch := omega) only [go_sem, zz1] at hb; done) | (simp (disch := omega) only [go_sem, zz1] at hb; try omega) | try omega) | (refine Zl ?_; intro bn hnil; (try simp (disch := omega) only [go_sem, zz1] at hnil); dsimp only [putT, List.set_cons_succ, List.set_cons_zero])
      all_goals exact L_next ⟨(i + 1, B), by simp; omega, ⟨by simp; omega, by simp; omega, k1⟩, (by exact weak_mk wkD wkH wkN wkM (by omega))⟩
    · repeat' first | refine Z0 ?_ | refine Zx ?_ | (refine Ze ?_; clear hK K) | refine W_reg fun K hK => ?_ | refine W_drwR rfl mixed (by decide +kernel) fun K hK => ?_ | refine W_drw mixed (by decide +kernel) fun K hK => ?_ | (refine Zb ?_ ?_ <;> intro hb <;> first | (simp (disch := omega) only [go_sem] at hb; done) | (simp (disch := omega) only [go_sem] at hb; try omega) | try omega) | (refine Zl ?_; intro bn hnil; (try simp (disch := omega) only [go_sem] at hnil); dsimp only [putT, List.set_cons_succ, List.set_cons_zero])
      exact Zr
  · repeat' first | refine Z0 ?_ | refine Zx ?_ | (refine Ze ?_; clear hK K) | refine W_reg fun K hK => ?_ | refine W_drwR rfl mixed (by decide +kernel) fun K hK => ?_ | refine W_drw mixed (by decide +kernel) fun K hK => ?_ | (refine Zb ?_ ?_ <;> intro hb <;> first | (simp (disch := omega) only [go_sem] at hb; done) | (simp (disch := omega) only [go_sem] at hb; try omega) | try omega) | (refine Zl ?_; intro bn hnil; (try simp (disch := omega) only [go_sem] at hnil); dsimp only [putT, List.set_cons_succ, List.set_cons_zero])
    exact Zr

end Go.Proofs.Ytdgjelfeclgolaa
