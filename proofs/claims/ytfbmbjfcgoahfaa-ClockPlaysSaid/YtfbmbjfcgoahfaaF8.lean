/-
  The clock: of nil; what is the same; laid; ClockNil; walked.
-/
import Derived.Test.YtfbmbjfcgoahfaaF7
namespace Go.Proofs.Ytfbmbjfcgoahfaa
open Go Go.AM
set_option maxHeartbeats 4000000
set_option maxRecDepth 8000
set_option linter.unusedSimpArgs false
set_option linter.unusedVariables false

attribute [go_sem] zDue zItem

theorem cnil_now : PCall Try.prog 22 [.nilp] (· = .int .i64 0) := by
  refine PCall_intro (c := Try.f22.body.getD .skip) Try.func22 rfl (by decide +kernel) Zf (W_start ?_)
  simp only [Try.f22, go_sem]
  repeat' first
    | refine Z0 ?_
    | refine Zx ?_
    | (refine Ze ?_; clear hK K)
    | refine W_reg fun K hK => ?_
    | refine W_drwR rfl mixed (by decide +kernel) fun K hK => ?_
    | refine W_drw mixed (by decide +kernel) fun K hK => ?_
    | (refine Zb ?_ ?_ <;> intro hb <;> first | (simp (disch := omega) only [go_sem] at hb; done) | (simp (disch := omega) only [go_sem] at hb; try omega) | try omega)
    | (refine Zl ?_; intro bn hnil; (try simp (disch := omega) only [go_sem] at hnil); dsimp only [putT, List.set_cons_succ, List.set_cons_zero])
  exact Zr
theorem cnil_left : PCall Try.prog 27 [.nilp] (· = .int .i64 0) := by
  refine PCall_intro (c := Try.f27.body.getD .skip) Try.func27 rfl (by decide +kernel) Zf (W_start ?_)
  simp only [Try.f27, go_sem]
  repeat' first
    | refine Z0 ?_
    | refine Zx ?_
    | (refine Ze ?_; clear hK K)
    | refine W_reg fun K hK => ?_
    | refine W_drwR rfl mixed (by decide +kernel) fun K hK => ?_
    | refine W_drw mixed (by decide +kernel) fun K hK => ?_
    | (refine Zb ?_ ?_ <;> intro hb <;> first | (simp (disch := omega) only [go_sem] at hb; done) | (simp (disch := omega) only [go_sem] at hb; try omega) | try omega)
    | (refine Zl ?_; intro bn hnil; (try simp (disch := omega) only [go_sem] at hnil); dsimp only [putT, List.set_cons_succ, List.set_cons_zero])
  exact Zr
theorem cnil_set (id at_ : Int) : PCall Try.prog 26 [.nilp, .int .i64 id, .int .i64 at_] (· = .int .i64 6) := by
  refine PCall_intro (c := Try.f26.body.getD .skip) Try.func26 rfl (by decide +kernel) Zf (W_start ?_)
  simp only [Try.f26, go_sem]
  repeat' first
    | refine Z0 ?_
    | refine Zx ?_
    | (refine Ze ?_; clear hK K)
    | refine W_reg fun K hK => ?_
    | refine W_drwR rfl mixed (by decide +kernel) fun K hK => ?_
    | refine W_drw mixed (by decide +kernel) fun K hK => ?_
    | (refine Zb ?_ ?_ <;> intro hb <;> first | (simp (disch := omega) only [go_sem] at hb; done) | (simp (disch := omega) only [go_sem] at hb; try omega) | try omega)
    | (refine Zl ?_; intro bn hnil; (try simp (disch := omega) only [go_sem] at hnil); dsimp only [putT, List.set_cons_succ, List.set_cons_zero])
  exact Zr
theorem cnil_cancel (id : Int) : PCall Try.prog 28 [.nilp, .int .i64 id] (· = .int .i64 6) := by
  refine PCall_intro (c := Try.f28.body.getD .skip) Try.func28 rfl (by decide +kernel) Zf (W_start ?_)
  simp only [Try.f28, go_sem]
  repeat' first
    | refine Z0 ?_
    | refine Zx ?_
    | (refine Ze ?_; clear hK K)
    | refine W_reg fun K hK => ?_
    | refine W_drwR rfl mixed (by decide +kernel) fun K hK => ?_
    | refine W_drw mixed (by decide +kernel) fun K hK => ?_
    | (refine Zb ?_ ?_ <;> intro hb <;> first | (simp (disch := omega) only [go_sem] at hb; done) | (simp (disch := omega) only [go_sem] at hb; try omega) | try omega)
    | (refine Zl ?_; intro bn hnil; (try simp (disch := omega) only [go_sem] at hnil); dsimp only [putT, List.set_cons_succ, List.set_cons_zero])
  exact Zr
theorem cnil_next : PCall Try.prog 29 [.nilp] (· = dueV (zDue, false)) := by
  refine PCall_intro (c := Try.f29.body.getD .skip) Try.func29 rfl (by decide +kernel) Zf (W_start ?_)
  simp only [Try.f29, go_sem]
  repeat' first
    | refine Z0 ?_
    | refine Zx ?_
    | (refine Ze ?_; clear hK K)
    | refine W_reg fun K hK => ?_
    | refine W_drwR rfl mixed (by decide +kernel) fun K hK => ?_
    | refine W_drw mixed (by decide +kernel) fun K hK => ?_
    | (refine Zb ?_ ?_ <;> intro hb <;> first | (simp (disch := omega) only [go_sem] at hb; done) | (simp (disch := omega) only [go_sem] at hb; try omega) | try omega)
    | (refine Zl ?_; intro bn hnil; (try simp (disch := omega) only [go_sem] at hnil); dsimp only [putT, List.set_cons_succ, List.set_cons_zero])
  exact Zr
theorem cnil_adv (to : Int) : PCall Try.prog 23 [.nilp, .int .i64 to] (· = advV ([], 6)) := by
  refine PCall_intro (c := Try.f23.body.getD .skip) Try.func23 rfl (by decide +kernel) Zf (W_start ?_)
  simp only [Try.f23, go_sem]
  repeat' first
    | refine Z0 ?_
    | refine Zx ?_
    | (refine Ze ?_; clear hK K)
    | refine W_reg fun K hK => ?_
    | refine W_drwR rfl mixed (by decide +kernel) fun K hK => ?_
    | refine W_drw mixed (by decide +kernel) fun K hK => ?_
    | (refine Zb ?_ ?_ <;> intro hb <;> first | (simp (disch := omega) only [go_sem] at hb; done) | (simp (disch := omega) only [go_sem] at hb; try omega) | try omega)
    | (refine Zl ?_; intro bn hnil; (try simp (disch := omega) only [go_sem] at hnil); dsimp only [putT, List.set_cons_succ, List.set_cons_zero])
  exact Zr

theorem awake5_ok : PCall Try.prog 20 [] (· = .bool true) := by
  obtain ⟨s1, v1, c1⟩ := set_V CView.new 7 5 (by decide)
  obtain ⟨s2, v2, c2⟩ := set_V v1 3 5 (by decide)
  obtain ⟨s3, v3, c3⟩ := set_V v2 9 2 (by decide)
  obtain ⟨s4, v4, c4⟩ := adv_V v3 5
  have e1 : setL 0 [] 7 5 = ([⟨5, 7⟩], 0) := by decide
  have e2 : setL 0 [⟨5, 7⟩] 3 5 = ([⟨5, 3⟩, ⟨5, 7⟩], 0) := by decide
  have e3 : setL 0 [⟨5, 3⟩, ⟨5, 7⟩] 9 2 = ([⟨2, 9⟩, ⟨5, 3⟩, ⟨5, 7⟩], 0) := by decide
  have e4 : advL 0 [⟨2, 9⟩, ⟨5, 3⟩, ⟨5, 7⟩] 5 = (5, [], [⟨9, 2⟩, ⟨3, 5⟩, ⟨7, 5⟩], 0) := by decide
  simp only [e1, e2, e3, e4] at c1 c2 c3 c4
  have c1 := c1 (C := 9) (H := 5) (a := 7) (m := 3) (by decide)
  have c2 := c2 (C := 9) (H := 5) (a := 7) (m := 3) (by decide)
  have c3 := c3 (C := 9) (H := 5) (a := 7) (m := 3) (by decide)
  have c4 := c4 (C := 9) (H := 5) (a := 7) (m := 3) (by decide)
  have r1 : (rws ([⟨9, 2⟩, ⟨3, 5⟩, ⟨7, 5⟩] : List TDue))[1]? = some (Enc.enc (⟨3, 5⟩ : TDue)) := rfl
  have r2 : (rws ([⟨9, 2⟩, ⟨3, 5⟩, ⟨7, 5⟩] : List TDue)).length = 3 := rfl
  generalize hl : ([⟨9, 2⟩, ⟨3, 5⟩, ⟨7, 5⟩] : List TDue) = l at *
  have r3 : l.length = 3 := by rw [← hl]; rfl
  refine PCall_intro (c := Try.f20.body.getD .skip) Try.func20 rfl (by decide +kernel) Zf (W_start ?_)
  simp only [Try.f20, go_sem]
  have zz1 := r1
  have zz2 := r3
  repeat' first
    | refine Z2 ?_
    | refine Zx ?_
    | refine Zbn cnew_N ?_
    | refine Zfc c1 ?_
    | refine Zfc c2 ?_
    | refine Zfc c3 ?_
    | refine Zfc c4 ?_
    | (refine Ze ?_; clear hK K)
    | refine W_reg fun K hK => ?_
    | refine W_drwR rfl mixed (by decide +kernel) fun K hK => ?_
    | refine W_drw mixed (by decide +kernel) fun K hK => ?_
    | (refine Zb ?_ ?_ <;> intro hb <;> first | (simp (disch := omega) only [go_sem, zz1, zz2] at hb; done) | (simp (disch := omega) only [go_sem, zz1, zz2] at hb; try omega) | try omega)
    | (refine Zl ?_; intro bn hnil; (try simp (disch := omega) only [go_sem, zz1, zz2] at hnil); dsimp only [putT, List.set_cons_succ, List.set_cons_zero])
  exact Zr

theorem clockNil_ok (id at_ : Int) : PCall Try.prog 9 [.int .i64 id, .int .i64 at_] (· = .bool true) := by
  have c0 := awake5_ok
  have c1 := cnil_now
  have c2 := cnil_left
  have c3 := cnil_set id at_
  have c4 := cnil_cancel id
  have c5 := cnil_next
  have c6 := cnil_adv at_
  refine PCall_intro (c := Try.f9.body.getD .skip) Try.func9 rfl (by decide +kernel) Zf (W_start ?_)
  simp only [Try.f9, go_sem]
  repeat' first
    | refine Z0 ?_
    | refine Zx ?_
    | refine Zc c0 ?_
    | refine Zc c1 ?_
    | refine Zc c2 ?_
    | refine Zc c3 ?_
    | refine Zc c4 ?_
    | refine Zc c5 ?_
    | refine Zc c6 ?_
    | (refine Ze ?_; clear hK K)
    | refine W_reg fun K hK => ?_
    | refine W_drwR rfl mixed (by decide +kernel) fun K hK => ?_
    | refine W_drw mixed (by decide +kernel) fun K hK => ?_
    | (refine Zb ?_ ?_ <;> intro hb <;> first | (simp (disch := omega) only [go_sem] at hb; done) | (simp (disch := omega) only [go_sem] at hb; try omega) | try omega)
    | (refine Zl ?_; intro bn hnil; (try simp (disch := omega) only [go_sem] at hnil); dsimp only [putT, List.set_cons_succ, List.set_cons_zero])
  exact Zr

theorem same5_ok (a b : List TDue) (ha : a.length ≤ 4294967296) (hb : b.length ≤ 4294967296) : PCall Try.prog 24 [.sl (rws a) none, .sl (rws b) none] (· = .bool (decide (a = b))) := by
  refine PCall_intro (c := Try.f24.body.getD .skip) Try.func24 rfl (by decide +kernel) Zf (W_start ?_)
  simp only [Try.f24, go_sem]
  by_cases hl : a.length = b.length
  · repeat' first
      | refine Z0 ?_
      | refine Zx ?_
      | (refine Ze ?_; clear hK K)
      | refine W_reg fun K hK => ?_
      | refine W_drwR rfl mixed (by decide +kernel) fun K hK => ?_
      | refine W_drw mixed (by decide +kernel) fun K hK => ?_
      | (refine Zb ?_ ?_ <;> intro hb <;> first | (simp (disch := omega) only [go_sem] at hb; done) | (simp (disch := omega) only [go_sem] at hb; try omega) | try omega)
      | (refine Zl ?_; intro bn hnil; (try simp (disch := omega) only [go_sem] at hnil); dsimp only [putT, List.set_cons_succ, List.set_cons_zero])
    refine W_foldK (fun (i : Nat) => [none, none, none, none, some .junk, some (.int .i64 i), none, none, none, none, none, some .junk, some .junk, some .junk, some .junk, some .junk, some .junk, some .junk, some .junk, some .junk, some .junk, some .junk, some .junk, some .junk, some .junk, some .junk]) (fun i => i ≤ a.length ∧ ∀ k, k < i → a[k]? = b[k]?) (fun i => a.length - i) 0 ⟨by omega, by omega⟩ (by exact weak_mk wkD wkH wkN wkM (by omega)) ?_
    rintro i ⟨h1, h2⟩
    simp only [msk_none, msk_some, msk_nil]
    rcases Nat.lt_or_ge i a.length with h4 | h4
    · obtain ⟨x, hx⟩ := some_of_lt h4
      obtain ⟨y, hy⟩ := some_of_lt (show i < b.length by omega)
      by_cases e : x = y
      · subst e
        have zz1 := rws_get hx
        have zz2 := rws_get hy
        repeat' first
          | refine Z2 ?_
          | refine Zx ?_
          | (refine Ze ?_; clear hK K)
          | refine W_reg fun K hK => ?_
          | refine W_drwR rfl mixed (by decide +kernel) fun K hK => ?_
          | refine W_drw mixed (by decide +kernel) fun K hK => ?_
          | (refine Zb ?_ ?_ <;> intro hb <;> first | (simp (disch := omega) only [go_sem, zz1, zz2] at hb; done) | (simp (disch := omega) only [go_sem, zz1, zz2] at hb; try omega) | try omega)
          | (refine Zl ?_; intro bn hnil; (try simp (disch := omega) only [go_sem, zz1, zz2] at hnil); dsimp only [putT, List.set_cons_succ, List.set_cons_zero])
        exact L_next ⟨i + 1, by omega, ⟨by omega, fun k hk => by
          by_cases e2 : k = i
          · subst e2; rw [hx, hy]
          · exact h2 k (by omega)⟩, (by exact weak_mk wkD wkH wkN wkM (by omega))⟩
      · have : decide (a = b) = false := by
          rw [decide_eq_false_iff_not]
          rintro rfl
          rw [hx] at hy
          exact e (Option.some.inj hy)
        rw [this]
        have zz1 := rws_get hx
        have zz2 := rws_get hy
        have zz3 := e
        repeat' first
          | refine Z3 ?_
          | refine Zx ?_
          | (refine Ze ?_; clear hK K)
          | refine W_reg fun K hK => ?_
          | refine W_drwR rfl mixed (by decide +kernel) fun K hK => ?_
          | refine W_drw mixed (by decide +kernel) fun K hK => ?_
          | (refine Zb ?_ ?_ <;> intro hb <;> first | (simp (disch := omega) only [go_sem, zz1, zz2, zz3] at hb; done) | (simp (disch := omega) only [go_sem, zz1, zz2, zz3] at hb; try omega) | try omega)
          | (refine Zl ?_; intro bn hnil; (try simp (disch := omega) only [go_sem, zz1, zz2, zz3] at hnil); dsimp only [putT, List.set_cons_succ, List.set_cons_zero])
        exact Zr
    · have : decide (a = b) = true := by
        rw [decide_eq_true_eq]
        apply List.ext_getElem?
        intro k
        by_cases hk : k < a.length
        · exact h2 k (by omega)
        · rw [List.getElem?_eq_none (by omega), List.getElem?_eq_none (by omega)]
      rw [this]
      repeat' first
        | refine Z0 ?_
        | refine Zx ?_
        | (refine Ze ?_; clear hK K)
        | refine W_reg fun K hK => ?_
        | refine W_drwR rfl mixed (by decide +kernel) fun K hK => ?_
        | refine W_drw mixed (by decide +kernel) fun K hK => ?_
        | (refine Zb ?_ ?_ <;> intro hb <;> first | (simp (disch := omega) only [go_sem] at hb; done) | (simp (disch := omega) only [go_sem] at hb; try omega) | try omega)
        | (refine Zl ?_; intro bn hnil; (try simp (disch := omega) only [go_sem] at hnil); dsimp only [putT, List.set_cons_succ, List.set_cons_zero])
      exact Zr
  · have : decide (a = b) = false := by
      rw [decide_eq_false_iff_not]
      rintro rfl
      exact hl rfl
    rw [this]
    repeat' first
      | refine Z0 ?_
      | refine Zx ?_
      | (refine Ze ?_; clear hK K)
      | refine W_reg fun K hK => ?_
      | refine W_drwR rfl mixed (by decide +kernel) fun K hK => ?_
      | refine W_drw mixed (by decide +kernel) fun K hK => ?_
      | (refine Zb ?_ ?_ <;> intro hb <;> first | (simp (disch := omega) only [go_sem] at hb; done) | (simp (disch := omega) only [go_sem] at hb; try omega) | try omega)
      | (refine Zl ?_; intro bn hnil; (try simp (disch := omega) only [go_sem] at hnil); dsimp only [putT, List.set_cons_succ, List.set_cons_zero])
    exact Zr

end Go.Proofs.Ytfbmbjfcgoahfaa
