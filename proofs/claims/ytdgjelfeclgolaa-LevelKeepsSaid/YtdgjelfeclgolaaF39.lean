/-
  A level's laws: a step, by the program; walked; and what it keeps.
-/
import Derived.Test.YtdgjelfeclgolaaF38
namespace Go.Proofs.Ytdgjelfeclgolaa
open Go Go.AM
set_option maxHeartbeats 8000000
set_option maxRecDepth 8000
set_option linter.unusedSimpArgs false
set_option linter.unusedVariables false

abbrev d8 (o : TOp23) : Int := (IntKind.u64.wrap o.do_).tmod 8
def h20 (o : TOp23) : List Int := o.hand.take 20
def stepN (s : TState) (o : TOp23) : TState × List TTicket :=
  if d8 o = 0 ∨ d8 o = 1 then (if (larrive s o.t (h20 o)).2 = 0 then ((larrive s o.t (h20 o)).1, noT) else (s, noT)) else
  if d8 o = 2 then ldispatch s else
  if d8 o = 3 then (if (ldone s o.n).2.2 = 0 then ((ldone s o.n).1, [(ldone s o.n).2.1]) else (s, noT)) else
  if d8 o = 4 then (if (ldrop s o.n).2.2 = 0 then ((ldrop s o.n).1, [(ldrop s o.n).2.1]) else (s, noT)) else
  if d8 o = 5 then llate s o.n else
  if d8 o = 6 then (wl s o.n, noT) else (lturn s o.level o.quiet, noT)

theorem h20_len (o : TOp23) : ∃ k : Nat, min (o.hand.length : Int) 20 = k ∧ k ≤ o.hand.length ∧ List.take k (rws o.hand) = rws (h20 o) ∧ (h20 o).length = k ∧ (h20 o).length ≤ maxLen := by
  refine ⟨min o.hand.length 20, by omega, by omega, ?_, by unfold h20; simp; omega, by unfold h20 maxLen; simp; omega⟩
  rw [rws_take]
  unfold h20
  rcases Nat.lt_or_ge o.hand.length 20 with h | h
  · rw [List.take_of_length_le (by omega), List.take_of_length_le (by omega)]
  · rw [Nat.min_eq_right h]

theorem step_ok (s : TState) (o : TOp23) (hf : okF 1000 1000 s.fair) (hr : s.running.length ≤ 900000) (hl : s.limit ≤ 9223372036854775807) (ho : o.hand.length ≤ maxLen) : PCall Try.prog 66 [.agg (Enc.enc s), .agg (Enc.enc o)] (· = stL (stepN s o)) := by
  unfold maxLen at ho
  obtain ⟨k, hk, hk2, r1, r2, r3⟩ := h20_len o
  unfold stepN
  generalize h20 o = H at *
  by_cases q0 : d8 o = 0 ∨ d8 o = 1
  · rw [if_pos q0]
    have c1 := larrive_ok s o.t H hf (by omega) hl r3
    simp only [stE] at c1
    generalize larrive s o.t H = R at *
    obtain ⟨A, e⟩ := R
    simp only [] at c1 ⊢
    subst r2
    by_cases he : e = 0
    · rw [if_pos he]
      rcases q0 with hd | hd
      · refine PCall_intro (c := Try.f66.body.getD .skip) Try.func66 rfl (by decide +kernel) Zf (W_start ?_)
        simp only [Try.f66, go_sem]
        have zz1 := hk
        have zz2 := r1
        have zz3 := hd
        repeat' first
          | refine Z3 ?_
          | refine Zx ?_
          | refine Zc c1 ?_
          | (refine Ze ?_; clear hK K)
          | refine W_reg fun K hK => ?_
          | refine W_drwR rfl mixed (by decide +kernel) fun K hK => ?_
          | refine W_drw mixed (by decide +kernel) fun K hK => ?_
          | (refine Zb ?_ ?_ <;> intro hb <;> first | (simp (disch := omega) only [go_sem, zz1, zz2, zz3] at hb; done) | (simp (disch := omega) only [go_sem, zz1, zz2, zz3] at hb; try omega) | try omega)
          | (refine Zl ?_; intro bn hnil; (try simp (disch := omega) only [go_sem, zz1, zz2, zz3] at hnil); dsimp only [putT, List.set_cons_succ, List.set_cons_zero])
        all_goals exact Zr
      · refine PCall_intro (c := Try.f66.body.getD .skip) Try.func66 rfl (by decide +kernel) Zf (W_start ?_)
        simp only [Try.f66, go_sem]
        have zz1 := hk
        have zz2 := r1
        have zz3 := hd
        repeat' first
          | refine Z3 ?_
          | refine Zx ?_
          | refine Zc c1 ?_
          | (refine Ze ?_; clear hK K)
          | refine W_reg fun K hK => ?_
          | refine W_drwR rfl mixed (by decide +kernel) fun K hK => ?_
          | refine W_drw mixed (by decide +kernel) fun K hK => ?_
          | (refine Zb ?_ ?_ <;> intro hb <;> first | (simp (disch := omega) only [go_sem, zz1, zz2, zz3] at hb; done) | (simp (disch := omega) only [go_sem, zz1, zz2, zz3] at hb; try omega) | try omega)
          | (refine Zl ?_; intro bn hnil; (try simp (disch := omega) only [go_sem, zz1, zz2, zz3] at hnil); dsimp only [putT, List.set_cons_succ, List.set_cons_zero])
        all_goals exact Zr
    · rw [if_neg he]
      rcases q0 with hd | hd
      · refine PCall_intro (c := Try.f66.body.getD .skip) Try.func66 rfl (by decide +kernel) Zf (W_start ?_)
        simp only [Try.f66, go_sem]
        have zz1 := hk
        have zz2 := r1
        have zz3 := hd
        repeat' first
          | refine Z3 ?_
          | refine Zx ?_
          | refine Zc c1 ?_
          | (refine Ze ?_; clear hK K)
          | refine W_reg fun K hK => ?_
          | refine W_drwR rfl mixed (by decide +kernel) fun K hK => ?_
          | refine W_drw mixed (by decide +kernel) fun K hK => ?_
          | (refine Zb ?_ ?_ <;> intro hb <;> first | (simp (disch := omega) only [go_sem, zz1, zz2, zz3] at hb; done) | (simp (disch := omega) only [go_sem, zz1, zz2, zz3] at hb; try omega) | try omega)
          | (refine Zl ?_; intro bn hnil; (try simp (disch := omega) only [go_sem, zz1, zz2, zz3] at hnil); dsimp only [putT, List.set_cons_succ, List.set_cons_zero])
        all_goals exact Zr
      · refine PCall_intro (c := Try.f66.body.getD .skip) Try.func66 rfl (by decide +kernel) Zf (W_start ?_)
        simp only [Try.f66, go_sem]
        have zz1 := hk
        have zz2 := r1
        have zz3 := hd
        repeat' first
          | refine Z3 ?_
          | refine Zx ?_
          | refine Zc c1 ?_
          | (refine Ze ?_; clear hK K)
          | refine W_reg fun K hK => ?_
          | refine W_drwR rfl mixed (by decide +kernel) fun K hK => ?_
          | refine W_drw mixed (by decide +kernel) fun K hK => ?_
          | (refine Zb ?_ ?_ <;> intro hb <;> first | (simp (disch := omega) only [go_sem, zz1, zz2, zz3] at hb; done) | (simp (disch := omega) only [go_sem, zz1, zz2, zz3] at hb; try omega) | try omega)
          | (refine Zl ?_; intro bn hnil; (try simp (disch := omega) only [go_sem, zz1, zz2, zz3] at hnil); dsimp only [putT, List.set_cons_succ, List.set_cons_zero])
        all_goals exact Zr
  · rw [if_neg q0]
    by_cases q2 : d8 o = 2
    · rw [if_pos q2]
      have c1 := ldispatch_ok s hf hr hl
      generalize ldispatch s = R at *
      obtain ⟨A, W⟩ := R
      simp only [stL] at c1
      refine PCall_intro (c := Try.f66.body.getD .skip) Try.func66 rfl (by decide +kernel) Zf (W_start ?_)
      simp only [Try.f66, go_sem]
      have zz1 := hk
      have zz2 := r1
      have zz3 := q2
      repeat' first
        | refine Z3 ?_
        | refine Zx ?_
        | refine Zc c1 ?_
        | (refine Ze ?_; clear hK K)
        | refine W_reg fun K hK => ?_
        | refine W_drwR rfl mixed (by decide +kernel) fun K hK => ?_
        | refine W_drw mixed (by decide +kernel) fun K hK => ?_
        | (refine Zb ?_ ?_ <;> intro hb <;> first | (simp (disch := omega) only [go_sem, zz1, zz2, zz3] at hb; done) | (simp (disch := omega) only [go_sem, zz1, zz2, zz3] at hb; try omega) | try omega)
        | (refine Zl ?_; intro bn hnil; (try simp (disch := omega) only [go_sem, zz1, zz2, zz3] at hnil); dsimp only [putT, List.set_cons_succ, List.set_cons_zero])
      all_goals exact Zr
    · rw [if_neg q2]
      by_cases q3 : d8 o = 3
      · rw [if_pos q3]
        have c1 := ldone_ok s o.n hf (by omega)
        generalize ldone s o.n = R at *
        obtain ⟨A, t, e⟩ := R
        simp only [stT] at c1 ⊢
        by_cases he : e = 0
        · rw [if_pos he]
          refine PCall_intro (c := Try.f66.body.getD .skip) Try.func66 rfl (by decide +kernel) Zf (W_start ?_)
          simp only [Try.f66, go_sem]
          have zz1 := hk
          have zz2 := r1
          have zz3 := q3
          repeat' first
            | refine Zlit ?_
            | refine Z3 ?_
            | refine Zx ?_
            | refine Zc c1 ?_
            | (refine Ze ?_; clear hK K)
            | refine W_reg fun K hK => ?_
            | refine W_drwR rfl mixed (by decide +kernel) fun K hK => ?_
            | refine W_drw mixed (by decide +kernel) fun K hK => ?_
            | (refine Zb ?_ ?_ <;> intro hb <;> first | (simp (disch := omega) only [go_sem, zz1, zz2, zz3] at hb; done) | (simp (disch := omega) only [go_sem, zz1, zz2, zz3] at hb; try omega) | try omega)
            | (refine Zl ?_; intro bn hnil; (try simp (disch := omega) only [go_sem, zz1, zz2, zz3] at hnil); dsimp only [putT, List.set_cons_succ, List.set_cons_zero])
          all_goals exact Zr
        · rw [if_neg he]
          refine PCall_intro (c := Try.f66.body.getD .skip) Try.func66 rfl (by decide +kernel) Zf (W_start ?_)
          simp only [Try.f66, go_sem]
          have zz1 := hk
          have zz2 := r1
          have zz3 := q3
          repeat' first
            | refine Zlit ?_
            | refine Z3 ?_
            | refine Zx ?_
            | refine Zc c1 ?_
            | (refine Ze ?_; clear hK K)
            | refine W_reg fun K hK => ?_
            | refine W_drwR rfl mixed (by decide +kernel) fun K hK => ?_
            | refine W_drw mixed (by decide +kernel) fun K hK => ?_
            | (refine Zb ?_ ?_ <;> intro hb <;> first | (simp (disch := omega) only [go_sem, zz1, zz2, zz3] at hb; done) | (simp (disch := omega) only [go_sem, zz1, zz2, zz3] at hb; try omega) | try omega)
            | (refine Zl ?_; intro bn hnil; (try simp (disch := omega) only [go_sem, zz1, zz2, zz3] at hnil); dsimp only [putT, List.set_cons_succ, List.set_cons_zero])
          all_goals exact Zr
      · rw [if_neg q3]
        by_cases q4 : d8 o = 4
        · rw [if_pos q4]
          have c1 := ldrop_ok s o.n hf (by omega)
          generalize ldrop s o.n = R at *
          obtain ⟨A, t, e⟩ := R
          simp only [stT] at c1 ⊢
          by_cases he : e = 0
          · rw [if_pos he]
            refine PCall_intro (c := Try.f66.body.getD .skip) Try.func66 rfl (by decide +kernel) Zf (W_start ?_)
            simp only [Try.f66, go_sem]
            have zz1 := hk
            have zz2 := r1
            have zz3 := q4
            repeat' first
              | refine Zlit ?_
              | refine Z3 ?_
              | refine Zx ?_
              | refine Zc c1 ?_
              | (refine Ze ?_; clear hK K)
              | refine W_reg fun K hK => ?_
              | refine W_drwR rfl mixed (by decide +kernel) fun K hK => ?_
              | refine W_drw mixed (by decide +kernel) fun K hK => ?_
              | (refine Zb ?_ ?_ <;> intro hb <;> first | (simp (disch := omega) only [go_sem, zz1, zz2, zz3] at hb; done) | (simp (disch := omega) only [go_sem, zz1, zz2, zz3] at hb; try omega) | try omega)
              | (refine Zl ?_; intro bn hnil; (try simp (disch := omega) only [go_sem, zz1, zz2, zz3] at hnil); dsimp only [putT, List.set_cons_succ, List.set_cons_zero])
            all_goals exact Zr
          · rw [if_neg he]
            refine PCall_intro (c := Try.f66.body.getD .skip) Try.func66 rfl (by decide +kernel) Zf (W_start ?_)
            simp only [Try.f66, go_sem]
            have zz1 := hk
            have zz2 := r1
            have zz3 := q4
            repeat' first
              | refine Zlit ?_
              | refine Z3 ?_
              | refine Zx ?_
              | refine Zc c1 ?_
              | (refine Ze ?_; clear hK K)
              | refine W_reg fun K hK => ?_
              | refine W_drwR rfl mixed (by decide +kernel) fun K hK => ?_
              | refine W_drw mixed (by decide +kernel) fun K hK => ?_
              | (refine Zb ?_ ?_ <;> intro hb <;> first | (simp (disch := omega) only [go_sem, zz1, zz2, zz3] at hb; done) | (simp (disch := omega) only [go_sem, zz1, zz2, zz3] at hb; try omega) | try omega)
              | (refine Zl ?_; intro bn hnil; (try simp (disch := omega) only [go_sem, zz1, zz2, zz3] at hnil); dsimp only [putT, List.set_cons_succ, List.set_cons_zero])
            all_goals exact Zr
        · rw [if_neg q4]
          by_cases q5 : d8 o = 5
          · rw [if_pos q5]
            have c1 := llate_ok s o.n hf (by omega)
            generalize llate s o.n = R at *
            obtain ⟨A, W⟩ := R
            simp only [stL] at c1
            refine PCall_intro (c := Try.f66.body.getD .skip) Try.func66 rfl (by decide +kernel) Zf (W_start ?_)
            simp only [Try.f66, go_sem]
            have zz1 := hk
            have zz2 := r1
            have zz3 := q5
            repeat' first
              | refine Z3 ?_
              | refine Zx ?_
              | refine Zc c1 ?_
              | (refine Ze ?_; clear hK K)
              | refine W_reg fun K hK => ?_
              | refine W_drwR rfl mixed (by decide +kernel) fun K hK => ?_
              | refine W_drw mixed (by decide +kernel) fun K hK => ?_
              | (refine Zb ?_ ?_ <;> intro hb <;> first | (simp (disch := omega) only [go_sem, zz1, zz2, zz3] at hb; done) | (simp (disch := omega) only [go_sem, zz1, zz2, zz3] at hb; try omega) | try omega)
              | (refine Zl ?_; intro bn hnil; (try simp (disch := omega) only [go_sem, zz1, zz2, zz3] at hnil); dsimp only [putT, List.set_cons_succ, List.set_cons_zero])
            all_goals exact Zr
          · rw [if_neg q5]
            by_cases q6 : d8 o = 6
            · rw [if_pos q6]
              refine PCall_intro (c := Try.f66.body.getD .skip) Try.func66 rfl (by decide +kernel) Zf (W_start ?_)
              simp only [Try.f66, go_sem]
              have zz1 := hk
              have zz2 := r1
              have zz3 := q6
              repeat' first
                | refine Z3 ?_
                | refine Zx ?_
                | (refine Ze ?_; clear hK K)
                | refine W_reg fun K hK => ?_
                | refine W_drwR rfl mixed (by decide +kernel) fun K hK => ?_
                | refine W_drw mixed (by decide +kernel) fun K hK => ?_
                | (refine Zb ?_ ?_ <;> intro hb <;> first | (simp (disch := omega) only [go_sem, zz1, zz2, zz3] at hb; done) | (simp (disch := omega) only [go_sem, zz1, zz2, zz3] at hb; try omega) | try omega)
                | (refine Zl ?_; intro bn hnil; (try simp (disch := omega) only [go_sem, zz1, zz2, zz3] at hnil); dsimp only [putT, List.set_cons_succ, List.set_cons_zero])
              all_goals exact Zr
            · rw [if_neg q6]
              have c1 := lturn_ok s o.level o.quiet hf (by omega)
              generalize lturn s o.level o.quiet = A at *
              have q00 : ¬ d8 o = 0 := fun h => q0 (.inl h)
              have q01 : ¬ d8 o = 1 := fun h => q0 (.inr h)
              refine PCall_intro (c := Try.f66.body.getD .skip) Try.func66 rfl (by decide +kernel) Zf (W_start ?_)
              simp only [Try.f66, go_sem]
              have zz1 := hk
              have zz2 := r1
              have zz3 := q00
              have zz4 := q01
              have zz5 := q2
              have zz6 := q3
              have zz7 := q4
              have zz8 := q5
              have zz9 := q6
              repeat' first
                | refine Z9 ?_
                | refine Zx ?_
                | refine Zc c1 ?_
                | (refine Ze ?_; clear hK K)
                | refine W_reg fun K hK => ?_
                | refine W_drwR rfl mixed (by decide +kernel) fun K hK => ?_
                | refine W_drw mixed (by decide +kernel) fun K hK => ?_
                | (refine Zb ?_ ?_ <;> intro hb <;> first | (simp (disch := omega) only [go_sem, zz1, zz2, zz3, zz4, zz5, zz6, zz7, zz8, zz9] at hb; done) | (simp (disch := omega) only [go_sem, zz1, zz2, zz3, zz4, zz5, zz6, zz7, zz8, zz9] at hb; try omega) | try omega)
                | (refine Zl ?_; intro bn hnil; (try simp (disch := omega) only [go_sem, zz1, zz2, zz3, zz4, zz5, zz6, zz7, zz8, zz9] at hnil); dsimp only [putT, List.set_cons_succ, List.set_cons_zero])
              all_goals exact Zr

end Go.Proofs.Ytdgjelfeclgolaa
