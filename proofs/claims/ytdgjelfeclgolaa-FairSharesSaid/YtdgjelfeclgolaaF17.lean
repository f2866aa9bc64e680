/-
  Lanes that take turns: turn by turn, and the law FairTime; walked.
-/
import Derived.Test.YtdgjelfeclgolaaM22c
namespace Go.Proofs.Ytdgjelfeclgolaa
open Go Go.AM
set_option maxHeartbeats 8000000
set_option maxRecDepth 8000
set_option linter.unusedSimpArgs false
set_option linter.unusedVariables false

abbrev runV (r : List TFair × List Int × List Int × Bool) : AVal := .tuple [.sl (rws r.1) none, .sl (rws r.2.1) none, .sl (rws r.2.2.1) none, .bool r.2.2.2]

def runOut (o g : Int) (us : List TTurn) : List TFair × List Int × List Int × Bool :=
  if mayB o g 64 = true then ((runS (fnew o g 64).1 us (min us.length 300)).2.1, (runS (fnew o g 64).1 us (min us.length 300)).2.2.1, (runS (fnew o g 64).1 us (min us.length 300)).2.2.2, true) else ([], [], [], false)

theorem run_ok (o g : Int) (us : List TTurn) (hl : us.length ≤ maxLen) : PCall Try.prog 37 [.int .i64 o, .int .i64 g, .sl (rws us) none] (· = runV (runOut o g us)) := by
  have a1 := fnew_ok o g 64
  unfold maxLen at hl
  by_cases hm : mayB o g 64 = true
  · have ho := (mayB_iff o g 64).1 hm
    obtain ⟨i0, i1⟩ := inv_new (m := 16) hm
    have e0 : runOut o g us = ((runS (fnew o g 64).1 us (min us.length 300)).2.1, (runS (fnew o g 64).1 us (min us.length 300)).2.2.1, (runS (fnew o g 64).1 us (min us.length 300)).2.2.2, true) := if_pos hm
    rw [e0]
    have len := runS_len (fnew o g 64).1 us
    have hinv := inv_run (us := us) i0 (by omega) (by omega)
    have get := fun n u (h : us[n]? = some u) => runS_succ (f0 := (fnew o g 64).1) h
    simp only [shapeV] at a1
    rw [i1] at a1
    generalize hS : runS (fnew o g 64).1 us = S at *
    have hS0 : S 0 = ((fnew o g 64).1, [], [], []) := by rw [← hS]; rfl
    clear hS
    generalize (fnew o g 64).1 = f0 at *
    refine PCall_intro (c := Try.f37.body.getD .skip) Try.func37 rfl (by decide +kernel) Zf (W_start ?_)
    simp only [Try.f37, go_sem]
    repeat' first
      | refine Z0 ?_
      | refine Zx ?_
      | refine Zc a1 ?_
      | (refine Ze ?_; clear hK K)
      | refine W_reg fun K hK => ?_
      | refine W_drwR rfl mixed (by decide +kernel) fun K hK => ?_
      | refine W_drw mixed (by decide +kernel) fun K hK => ?_
      | (refine Zb ?_ ?_ <;> intro hb <;> first | (simp (disch := omega) only [go_sem] at hb; done) | (simp (disch := omega) only [go_sem] at hb; try omega) | try omega)
      | (refine Zl ?_; intro bn hnil; (try simp (disch := omega) only [go_sem] at hnil); dsimp only [putT, List.set_cons_succ, List.set_cons_zero])
    (apply W_unbornAt 12 5; (case ht => exact rfl); (case e => exact sT); (case hn => exact nT))
    (apply W_unbornAt 13 1; (case ht => exact rfl); (case e => exact sT); (case hn => exact nT))
    (apply W_unbornAt 14 1; (case ht => exact rfl); (case e => exact sT); (case hn => exact nT))
    refine W_foldM (fun (a : Nat × TFair × List TFair × List Int × List Int) => [none, none, none, none, none, none, some .junk, some .junk, some .junk, some .junk, none, none, some (.ref 19 a.1 0 a.1 false a.1), some (.ref 20 a.1 0 a.1 false a.1), some (.ref 21 a.1 0 a.1 false a.1), some (.int .i64 a.1), some .junk, some .junk, some .junk, some .junk, some .junk, some .junk, some .junk, some .junk, some .junk, some .junk, some .junk, none, none, none, none, none, none, none, none, some .junk, some .junk, some .junk, some .junk, some .junk, some .junk, some .junk, some .junk, some .junk, some .junk, some .junk, some .junk, some .junk, some .junk, some .junk, some .junk, some .junk, some .junk, some .junk, some .junk, some .junk, some .junk, some .junk, some .junk, some .junk, some .junk, some .junk, some .junk, some .junk, some .junk, some .junk, some .junk, some .junk, some .junk, some .junk, some .junk, some .junk, some .junk, some .junk, some .junk, some .junk, some .junk, some .junk, some .junk, some .junk, some .junk, some .junk, some .junk, some .junk, some .junk, some .junk, some .junk, some .junk, some .junk, some .junk, some .junk, some .junk, some .junk, some .junk, some .junk, some .junk, some .junk, some .junk, some .junk, some .junk, some .junk, some .junk, some .junk, some .junk, some .junk, some .junk])
      (fun a => [(21, .arr 1 (rws a.2.2.2.2)), (20, .arr 1 (rws a.2.2.2.1)), (19, .arr 5 (rws a.2.2.1)), (10, .arr 5 [[.int .u64 a.2.1.r, .int .i64 a.2.1.guess, .int .i64 a.2.1.length, .int .i64 a.2.1.open_, .sl (rws a.2.1.lanes) none]])])
      (fun a => a.1 ≤ us.length ∧ a.1 ≤ 300 ∧ a.2 = S a.1) (fun a => us.length - a.1) (0, f0, [], [], []) ⟨by simp, by simp, hS0.symm⟩ (by exact weak_mk wkD wkH wkN wkM (by omega)) ?_
    rintro ⟨i, F, A, B, C⟩ ⟨hi, h300, hst⟩
    simp only [] at hi h300 hst
    simp only [msk_none, msk_some, msk_nil]
    obtain ⟨l1, l2, l3⟩ := len i hi
    rw [← hst] at l1 l2 l3
    dsimp only at l1 l2 l3
    rcases Nat.lt_or_ge i us.length with h4 | h4
    · rcases Nat.lt_or_ge i 300 with h5 | h5
      · obtain ⟨u, hu⟩ := some_of_lt h4
        have nxt := get i u hu
        rw [← hst] at nxt
        dsimp only at nxt
        have hF := (hinv i (by omega) (by omega) fun j v _ _ => by unfold clampW; omega).okF (by omega)
        rw [← hst] at hF
        dsimp only at hF
        have hF2 := hF.mono (n' := 1000) (m' := 1000) (by omega) (by omega)
        have eA := fun G : TFair => rws_snoc A G
        have eB := fun G : Int => rws_snoc B G
        have eC := fun G : Int => rws_snoc C G
        simp only [enc_TFair, enc_int] at eA eB eC
        cases ht : u.take with
        | true =>
          have c1 := next_ok F hF2
          have c2 := ftake_ok F hF2
          have hr : (rws us)[i]? = some [.bool true, .int .i64 u.lane, .int .i64 u.width] := by rw [rws_get hu, enc_TTurn, ht]
          simp only [fairV] at c2
          rcases take_spec F with ⟨q1, _, q2⟩ | ⟨k, l, t, w, q1, _, _, q4, _, _, _⟩
          · rw [q1, show max (-1 : Int) 0 = 0 by rfl, show decide ((0 : Int) ≤ -1) = false by rfl] at c1
            rw [q2] at c2
            have e1 : stepR F u i = (F, -1, 0) := by rw [stepR, if_pos ht, if_pos (by omega)]
            rw [e1] at nxt
            have f1 := eA F
            have f2 := eB (-1)
            have f3 := eC 0
            have zz1 := hr
            have zz2 := f1
            have zz3 := f2
            have zz4 := f3
            have zz5 := l1
            have zz6 := l2
            have zz7 := l3
            repeat' first
              | refine Z7 ?_
              | refine Zx ?_
              | refine Zc c1 ?_
              | refine Zc c2 ?_
              | (refine Ze ?_; clear hK K)
              | refine W_reg fun K hK => ?_
              | refine W_drwR rfl mixed (by decide +kernel) fun K hK => ?_
              | refine W_drw mixed (by decide +kernel) fun K hK => ?_
              | (refine Zb ?_ ?_ <;> intro hb <;> first | (simp (disch := omega) only [go_sem, zz1, zz2, zz3, zz4, zz5, zz6, zz7] at hb; done) | (simp (disch := omega) only [go_sem, zz1, zz2, zz3, zz4, zz5, zz6, zz7] at hb; try omega) | try omega)
              | (refine Zl ?_; intro bn hnil; (try simp (disch := omega) only [go_sem, zz1, zz2, zz3, zz4, zz5, zz6, zz7] at hnil); dsimp only [putT, List.set_cons_succ, List.set_cons_zero])
            exact L_next ⟨(i + 1, F, A ++ [F], B ++ [-1], C ++ [0]), by simp; omega, ⟨by simp; omega, by simp; omega, nxt.symm⟩, (by exact weak_mk wkD wkH wkN wkM (by omega))⟩
          · rw [q1, show max (k : Int) 0 = k by omega, show decide ((0 : Int) ≤ k) = true by simp] at c1
            have e1 : stepR F u i = ((ftake F).1, (k : Int), (ftake F).2.1.width) := by rw [stepR, if_pos ht, if_neg (by omega), q1]
            rw [q4] at e1 c2
            dsimp only at e1 c2
            rw [e1] at nxt
            generalize (ftake F).1 = T at *
            have f1 := eA T
            have f2 := eB k
            have f3 := eC t.width
            have zz1 := hr
            have zz2 := f1
            have zz3 := f2
            have zz4 := f3
            have zz5 := l1
            have zz6 := l2
            have zz7 := l3
            repeat' first
              | refine Z7 ?_
              | refine Zx ?_
              | refine Zc c1 ?_
              | refine Zc c2 ?_
              | (refine Ze ?_; clear hK K)
              | refine W_reg fun K hK => ?_
              | refine W_drwR rfl mixed (by decide +kernel) fun K hK => ?_
              | refine W_drw mixed (by decide +kernel) fun K hK => ?_
              | (refine Zb ?_ ?_ <;> intro hb <;> first | (simp (disch := omega) only [go_sem, zz1, zz2, zz3, zz4, zz5, zz6, zz7] at hb; done) | (simp (disch := omega) only [go_sem, zz1, zz2, zz3, zz4, zz5, zz6, zz7] at hb; try omega) | try omega)
              | (refine Zl ?_; intro bn hnil; (try simp (disch := omega) only [go_sem, zz1, zz2, zz3, zz4, zz5, zz6, zz7] at hnil); dsimp only [putT, List.set_cons_succ, List.set_cons_zero])
            exact L_next ⟨(i + 1, T, A ++ [T], B ++ [(k : Int)], C ++ [t.width]), by simp; omega, ⟨by simp; omega, by simp; omega, nxt.symm⟩, (by exact weak_mk wkD wkH wkN wkM (by omega))⟩
        | false =>
          have hr : (rws us)[i]? = some [.bool false, .int .i64 u.lane, .int .i64 u.width] := by rw [rws_get hu, enc_TTurn, ht]
          have c1 := fjoin_ok F [u.lane] (turnT u i) hF2 (by unfold maxLen; simp)
          have e1 : stepR F u i = if (fjoin F [u.lane] (turnT u i)).2.2 = 0 then ((fjoin F [u.lane] (turnT u i)).1, -1, 0) else (F, -1, 0) := by rw [stepR, if_neg (by rw [ht]; simp)]
          rw [show (AVal.sl (rws [u.lane]) none) = .sl [[.int .i64 u.lane]] none from rfl, show Enc.enc (turnT u i) = [.int .i64 i, .int .i64 (min (max u.width 1) 16), .int .i64 0, .int .i64 0, .int .i64 0] from rfl] at c1
          generalize fjoin F [u.lane] (turnT u i) = J at *
          obtain ⟨J, jk, je⟩ := J
          simp only [joinV] at c1
          dsimp only at e1
          have f2 := eB (-1)
          have f3 := eC 0
          by_cases hje : je = 0
          · rw [if_pos hje] at e1
            rw [e1] at nxt
            have f1 := eA J
            subst hje
            have zz1 := hr
            have zz2 := f1
            have zz3 := f2
            have zz4 := f3
            have zz5 := l1
            have zz6 := l2
            have zz7 := l3
            repeat' first
              | refine Zlit ?_
              | refine Z7 ?_
              | refine Zx ?_
              | refine Zc c1 ?_
              | (refine Ze ?_; clear hK K)
              | refine W_reg fun K hK => ?_
              | refine W_drwR rfl mixed (by decide +kernel) fun K hK => ?_
              | refine W_drw mixed (by decide +kernel) fun K hK => ?_
              | (refine Zb ?_ ?_ <;> intro hb <;> first | (simp (disch := omega) only [go_sem, zz1, zz2, zz3, zz4, zz5, zz6, zz7] at hb; done) | (simp (disch := omega) only [go_sem, zz1, zz2, zz3, zz4, zz5, zz6, zz7] at hb; try omega) | try omega)
              | (refine Zl ?_; intro bn hnil; (try simp (disch := omega) only [go_sem, zz1, zz2, zz3, zz4, zz5, zz6, zz7] at hnil); dsimp only [putT, List.set_cons_succ, List.set_cons_zero])
            exact L_next ⟨(i + 1, J, A ++ [J], B ++ [-1], C ++ [0]), by simp; omega, ⟨by simp; omega, by simp; omega, nxt.symm⟩, (by exact weak_mk wkD wkH wkN wkM (by omega))⟩
          · rw [if_neg hje] at e1
            rw [e1] at nxt
            have f1 := eA F
            have zz1 := hr
            have zz2 := f1
            have zz3 := f2
            have zz4 := f3
            have zz5 := l1
            have zz6 := l2
            have zz7 := l3
            repeat' first
              | refine Zlit ?_
              | refine Z7 ?_
              | refine Zx ?_
              | refine Zc c1 ?_
              | (refine Ze ?_; clear hK K)
              | refine W_reg fun K hK => ?_
              | refine W_drwR rfl mixed (by decide +kernel) fun K hK => ?_
              | refine W_drw mixed (by decide +kernel) fun K hK => ?_
              | (refine Zb ?_ ?_ <;> intro hb <;> first | (simp (disch := omega) only [go_sem, zz1, zz2, zz3, zz4, zz5, zz6, zz7] at hb; done) | (simp (disch := omega) only [go_sem, zz1, zz2, zz3, zz4, zz5, zz6, zz7] at hb; try omega) | try omega)
              | (refine Zl ?_; intro bn hnil; (try simp (disch := omega) only [go_sem, zz1, zz2, zz3, zz4, zz5, zz6, zz7] at hnil); dsimp only [putT, List.set_cons_succ, List.set_cons_zero])
            exact L_next ⟨(i + 1, F, A ++ [F], B ++ [-1], C ++ [0]), by simp; omega, ⟨by simp; omega, by simp; omega, nxt.symm⟩, (by exact weak_mk wkD wkH wkN wkM (by omega))⟩
      · obtain rfl : i = 300 := by omega
        rw [show min us.length 300 = 300 by omega, ← hst]
        dsimp only
        repeat' first
          | refine Z0 ?_
          | refine Zx ?_
          | (refine Ze ?_; clear hK K)
          | refine W_reg fun K hK => ?_
          | refine W_drwR rfl mixed (by decide +kernel) fun K hK => ?_
          | refine W_drw mixed (by decide +kernel) fun K hK => ?_
          | (refine Zb ?_ ?_ <;> intro hb <;> first | (simp (disch := omega) only [go_sem] at hb; done) | (simp (disch := omega) only [go_sem] at hb; try omega) | try omega)
          | (refine Zl ?_; intro bn hnil; (try simp (disch := omega) only [go_sem] at hnil); dsimp only [putT, List.set_cons_succ, List.set_cons_zero])
        exact Zr
    · obtain rfl : i = us.length := by omega
      rw [show min us.length 300 = us.length by omega, ← hst]
      dsimp only
      repeat' first
        | refine Z0 ?_
        | refine Zx ?_
        | (refine Ze ?_; clear hK K)
        | refine W_reg fun K hK => ?_
        | refine W_drwR rfl mixed (by decide +kernel) fun K hK => ?_
        | refine W_drw mixed (by decide +kernel) fun K hK => ?_
        | (refine Zb ?_ ?_ <;> intro hb <;> first | (simp (disch := omega) only [go_sem] at hb; done) | (simp (disch := omega) only [go_sem] at hb; try omega) | try omega)
        | (refine Zl ?_; intro bn hnil; (try simp (disch := omega) only [go_sem] at hnil); dsimp only [putT, List.set_cons_succ, List.set_cons_zero])
      exact Zr
  · have e0 : runOut o g us = ([], [], [], false) := if_neg hm
    rw [e0]
    rw [fnew_eq, if_neg hm] at a1
    simp only [shapeV] at a1
    refine PCall_intro (c := Try.f37.body.getD .skip) Try.func37 rfl (by decide +kernel) Zf (W_start ?_)
    simp only [Try.f37, go_sem]
    repeat' first
      | refine Z0 ?_
      | refine Zx ?_
      | refine Zc a1 ?_
      | (refine Ze ?_; clear hK K)
      | refine W_reg fun K hK => ?_
      | refine W_drwR rfl mixed (by decide +kernel) fun K hK => ?_
      | refine W_drw mixed (by decide +kernel) fun K hK => ?_
      | (refine Zb ?_ ?_ <;> intro hb <;> first | (simp (disch := omega) only [go_sem] at hb; done) | (simp (disch := omega) only [go_sem] at hb; try omega) | try omega)
      | (refine Zl ?_; intro bn hnil; (try simp (disch := omega) only [go_sem] at hnil); dsimp only [putT, List.set_cons_succ, List.set_cons_zero])
    exact Zr

theorem fairTime_ok (o g : Int) (us : List TTurn) (hl : us.length ≤ maxLen) : PCall Try.prog 8 [.int .i64 o, .int .i64 g, .sl (rws us) none] (· = .bool true) := by
  have c0 := awake22_ok
  have c1 := run_ok o g us hl
  have a1 := fnew_ok o g 64
  by_cases hm : mayB o g 64 = true
  · have ho := (mayB_iff o g 64).1 hm
    obtain ⟨i0, i1⟩ := inv_new (m := 16) hm
    have e0 : runOut o g us = ((runS (fnew o g 64).1 us (min us.length 300)).2.1, (runS (fnew o g 64).1 us (min us.length 300)).2.2.1, (runS (fnew o g 64).1 us (min us.length 300)).2.2.2, true) := if_pos hm
    rw [e0] at c1
    have len := (runS_len (fnew o g 64).1 us (min us.length 300) (by omega)).1
    have get := runS_get (fnew o g 64).1 us (min us.length 300) (by omega)
    have hinv := inv_run (us := us) i0 (by omega) (by omega)
    have hst := fun n u (h : us[n]? = some u) => runS_succ (f0 := (fnew o g 64).1) h
    have hr0 : (fnew o g 64).1.r = 0 := by have h1 := i0.r0; have h2 := i0.r1; omega
    simp only [runV] at c1
    generalize hS : runS (fnew o g 64).1 us = S at *
    have hS0 : (S 0).1.r = 0 := by rw [← hS]; exact hr0
    generalize hn : min us.length 300 = n at *
    generalize (S n).2.2.1 = B at *
    generalize (S n).2.2.2 = C at *
    generalize (S n).2.1 = A at *
    refine PCall_intro (c := Try.f8.body.getD .skip) Try.func8 rfl (by decide +kernel) Zf (W_start ?_)
    simp only [Try.f8, go_sem]
    repeat' first
      | refine Z0 ?_
      | refine Zx ?_
      | refine Zc c0 ?_
      | refine Zc c1 ?_
      | (refine Ze ?_; clear hK K)
      | refine W_reg fun K hK => ?_
      | refine W_drwR rfl mixed (by decide +kernel) fun K hK => ?_
      | refine W_drw mixed (by decide +kernel) fun K hK => ?_
      | (refine Zb ?_ ?_ <;> intro hb <;> first | (simp (disch := omega) only [go_sem] at hb; done) | (simp (disch := omega) only [go_sem] at hb; try omega) | try omega)
      | (refine Zl ?_; intro bn hnil; (try simp (disch := omega) only [go_sem] at hnil); dsimp only [putT, List.set_cons_succ, List.set_cons_zero])
    refine W_foldK (fun (a : Nat × Int) => [none, none, none, none, none, none, some .junk, none, none, none, none, none, none, some (.int .u64 a.2), some (.int .i64 a.1), some .junk, some .junk, some .junk, some .junk, none, none, none, none, none, none, none, none, none, none, none, none, none, none, none, none, none, none, none, none, none, some .junk, some .junk, some .junk, some .junk, some .junk, some .junk, some .junk, some .junk, some .junk, some .junk, some .junk, some .junk, some .junk, some .junk, some .junk, some .junk, some .junk, some .junk, some .junk, some .junk, some .junk, some .junk, some .junk, some .junk, some .junk, some .junk, some .junk, some .junk, some .junk, some .junk, some .junk, some .junk, some .junk, some .junk, some .junk, some .junk, some .junk, some .junk, some .junk, some .junk, some .junk, some .junk, some .junk, some .junk, some .junk, some .junk, some .junk, some .junk, some .junk, some .junk, some .junk, some .junk]) (fun a => a.1 ≤ n ∧ a.2 = (S a.1).1.r) (fun a => n - a.1) (0, 0) ⟨by simp, hS0.symm⟩ (by exact weak_mk wkD wkH wkN wkM (by omega)) ?_
    rintro ⟨i, r⟩ ⟨hi, hr⟩
    simp only [] at hi hr
    simp only [msk_none, msk_some, msk_nil]
    rcases Nat.lt_or_ge i n with h4 | h4
    · obtain ⟨u, hu⟩ := some_of_lt (l := us) (i := i) (by omega)
      have hx := (get i u h4 hu).1
      have hI := hinv i (by omega) (by omega) fun j v _ _ => by unfold clampW; omega
      have hG := (hst i u hu)
      obtain ⟨hI2, hmono⟩ := inv_step hI (by omega) (by omega) (by omega) u (by unfold clampW; omega)
      rw [← hr] at hmono
      rw [hG] at hx
      dsimp only at hx
      have hnext : (S (i + 1)).1 = (stepR (S i).1 u i).1 := by rw [hG]
      generalize (stepR (S i).1 u i).1 = G at *
      have hGF := hI2.okF (by omega)
      have hlen := hI2.hl
      have zz1 := rws_get hx
      have zz2 := len
      repeat' first
        | refine Z2 ?_
        | refine Zx ?_
        | (refine Ze ?_; clear hK K)
        | refine W_reg fun K hK => ?_
        | refine W_drwR rfl mixed (by decide +kernel) fun K hK => ?_
        | refine W_drw mixed (by decide +kernel) fun K hK => ?_
        | (refine Zb ?_ ?_ <;> intro hb <;> first | (simp (disch := omega) only [go_sem, zz1, zz2] at hb; done) | (simp (disch := omega) only [go_sem, zz1, zz2] at hb; try omega) | try omega)
        | (refine Zl ?_; intro bn hnil; (try simp (disch := omega) only [go_sem, zz1, zz2] at hnil); dsimp only [putT, List.set_cons_succ, List.set_cons_zero])
      refine W_foldK (fun (k : Nat) => [none, none, none, none, none, none, some .junk, none, none, none, none, none, none, none, none, none, some (.int .i64 k), some .junk, some .junk, none, none, none, none, none, none, none, none, none, none, none, none, none, none, none, none, none, none, none, none, none, none, none, none, none, none, none, none, none, none, none, none, none, none, none, none, none, some .junk, some .junk, some .junk, some .junk, some .junk, some .junk, some .junk, some .junk, some .junk, some .junk, some .junk, some .junk, some .junk, some .junk, some .junk, some .junk, some .junk, some .junk, some .junk, some .junk, some .junk, some .junk, some .junk, some .junk, some .junk, some .junk, some .junk, some .junk, some .junk, some .junk, some .junk, some .junk, some .junk, some .junk, some .junk, some .junk]) (fun k => k ≤ G.lanes.length) (fun k => G.lanes.length - k) 0 (by omega) (by exact weak_mk wkD wkH wkN wkM (by omega)) ?_
      rintro k hk
      simp only [msk_none, msk_some, msk_nil]
      rcases Nat.lt_or_ge k G.lanes.length with h5 | h5
      · obtain ⟨l, hl⟩ := some_of_lt h5
        have d1 := hGF.2 l (List.mem_of_getElem? hl)
        have d2 := hI2.st k l hl
        have c2 := fin_ok l G.guess d1.1 (by omega)
        rcases hw : l.wait with _ | ⟨t, w⟩
        · rw [show fin l G.guess = (0, false) by rw [fin, hw]] at c2
          have zz1 := rws_get hl
          repeat' first
            | refine Z1 ?_
            | refine Zx ?_
            | refine Zc c2 ?_
            | (refine Ze ?_; clear hK K)
            | refine W_reg fun K hK => ?_
            | refine W_drwR rfl mixed (by decide +kernel) fun K hK => ?_
            | refine W_drw mixed (by decide +kernel) fun K hK => ?_
            | (refine Zb ?_ ?_ <;> intro hb <;> first | (simp (disch := omega) only [go_sem, zz1] at hb; done) | (simp (disch := omega) only [go_sem, zz1] at hb; try omega) | try omega)
            | (refine Zl ?_; intro bn hnil; (try simp (disch := omega) only [go_sem, zz1] at hnil); dsimp only [putT, List.set_cons_succ, List.set_cons_zero])
          exact L_next ⟨k + 1, by omega, by omega, (by exact weak_mk wkD wkH wkN wkM (by omega))⟩
        · rw [inv_fin hI2 (by omega) (by omega) (by omega) hl hw] at c2
          have d3 := d2.2.2.2 t w hw
          generalize l.start + t.width * g = E at *
          have zz1 := rws_get hl
          repeat' first
            | refine Z1 ?_
            | refine Zx ?_
            | refine Zc c2 ?_
            | (refine Ze ?_; clear hK K)
            | refine W_reg fun K hK => ?_
            | refine W_drwR rfl mixed (by decide +kernel) fun K hK => ?_
            | refine W_drw mixed (by decide +kernel) fun K hK => ?_
            | (refine Zb ?_ ?_ <;> intro hb <;> first | (simp (disch := omega) only [go_sem, zz1] at hb; done) | (simp (disch := omega) only [go_sem, zz1] at hb; try omega) | try omega)
            | (refine Zl ?_; intro bn hnil; (try simp (disch := omega) only [go_sem, zz1] at hnil); dsimp only [putT, List.set_cons_succ, List.set_cons_zero])
          exact L_next ⟨k + 1, by omega, by omega, (by exact weak_mk wkD wkH wkN wkM (by omega))⟩
      · repeat' first
          | refine Z0 ?_
          | refine Zx ?_
          | (refine Ze ?_; clear hK K)
          | refine W_reg fun K hK => ?_
          | refine W_drwR rfl mixed (by decide +kernel) fun K hK => ?_
          | refine W_drw mixed (by decide +kernel) fun K hK => ?_
          | (refine Zb ?_ ?_ <;> intro hb <;> first | (simp (disch := omega) only [go_sem] at hb; done) | (simp (disch := omega) only [go_sem] at hb; try omega) | try omega)
          | (refine Zl ?_; intro bn hnil; (try simp (disch := omega) only [go_sem] at hnil); dsimp only [putT, List.set_cons_succ, List.set_cons_zero])
        exact L_next ⟨(i + 1, G.r), by simp; omega, ⟨by simp; omega, by simp [hnext]⟩, (by exact weak_mk wkD wkH wkN wkM (by omega))⟩
    · have zz1 := len
      repeat' first
        | refine Z1 ?_
        | refine Zx ?_
        | (refine Ze ?_; clear hK K)
        | refine W_reg fun K hK => ?_
        | refine W_drwR rfl mixed (by decide +kernel) fun K hK => ?_
        | refine W_drw mixed (by decide +kernel) fun K hK => ?_
        | (refine Zb ?_ ?_ <;> intro hb <;> first | (simp (disch := omega) only [go_sem, zz1] at hb; done) | (simp (disch := omega) only [go_sem, zz1] at hb; try omega) | try omega)
        | (refine Zl ?_; intro bn hnil; (try simp (disch := omega) only [go_sem, zz1] at hnil); dsimp only [putT, List.set_cons_succ, List.set_cons_zero])
      exact Zr
  · have e0 : runOut o g us = ([], [], [], false) := if_neg hm
    rw [e0] at c1
    rw [fnew_eq, if_neg hm] at a1
    simp only [shapeV, runV] at a1 c1
    refine PCall_intro (c := Try.f8.body.getD .skip) Try.func8 rfl (by decide +kernel) Zf (W_start ?_)
    simp only [Try.f8, go_sem]
    repeat' first
      | refine Z0 ?_
      | refine Zx ?_
      | refine Zc c0 ?_
      | refine Zc c1 ?_
      | refine Zc a1 ?_
      | (refine Ze ?_; clear hK K)
      | refine W_reg fun K hK => ?_
      | refine W_drwR rfl mixed (by decide +kernel) fun K hK => ?_
      | refine W_drw mixed (by decide +kernel) fun K hK => ?_
      | (refine Zb ?_ ?_ <;> intro hb <;> first | (simp (disch := omega) only [go_sem] at hb; done) | (simp (disch := omega) only [go_sem] at hb; try omega) | try omega)
      | (refine Zl ?_; intro bn hnil; (try simp (disch := omega) only [go_sem] at hnil); dsimp only [putT, List.set_cons_succ, List.set_cons_zero])
    exact Zr

end Go.Proofs.Ytdgjelfeclgolaa
