/-
  A level's laws: LevelAll; walked.
-/
import Derived.Test.YtdgjelfeclgolaaF38
import Derived.Test.YtdgjelfeclgolaaF42
namespace Go.Proofs.Ytdgjelfeclgolaa
open Go Go.AM
set_option maxHeartbeats 8000000
set_option maxRecDepth 8000
set_option linter.unusedSimpArgs false
set_option linter.unusedVariables false

theorem zero_okF (n m : Nat) : okF n m zeroF := ⟨by simp [zeroF], by simp [zeroF]⟩
theorem okF_lateF {n m : Nat} {f : TFair} (h : okF n m f) (now : Int) : okF n m (lateF f now) := by
  refine ⟨by simpa [lateF] using h.1, fun l hl => ?_⟩
  simp only [lateF, List.mem_map] at hl
  obtain ⟨x, hx, rfl⟩ := hl
  exact ⟨(h.2 x hx).1, Nat.le_trans (List.length_filter_le _ _) (h.2 x hx).2⟩

theorem scopyP_ok (s : TState) (hf : okF 1000 1000 s.fair) (hr : s.running.length ≤ 2000000) : PCall Try.prog 65 [.agg (Enc.enc s)] (· = .agg (Enc.enc s)) := by
  have c1 := fcopyP_ok s.fair hf
  refine PCall_intro (c := Try.f65.body.getD .skip) Try.func65 rfl (by decide +kernel) Zf (W_start ?_)
  simp only [Try.f65, go_sem]
  repeat' first | refine Z0 ?_ | refine Zx ?_ | refine Zc c1 ?_ | (refine Ze ?_; clear hK K) | refine W_reg fun K hK => ?_ | refine W_drwR rfl mixed (by decide +kernel) fun K hK => ?_ | refine W_drw mixed (by decide +kernel) fun K hK => ?_ | (refine Zb ?_ ?_ <;> intro hb <;> first | (simp (disch := omega) only [go_sem] at hb; done) | (simp (disch := omega) only [go_sem] at hb; try omega) | try omega) | (refine Zl ?_; intro bn hnil; (try simp (disch := omega) only [go_sem] at hnil); dsimp only [putT, List.set_cons_succ, List.set_cons_zero])
  exact Zr

theorem ldispN_len : ∀ (n : Nat) (s : TState) (out : List TTicket), (ldispN n s out).2.length ≤ out.length + n
  | 0, s, out => by simp [ldispN]
  | n + 1, s, out => by
    rw [ldispN]
    split
    · have := ldispN_len n (withFair (withRun s (s.running ++ [seated (ftake s.fair).2.1 (fits s (ftake s.fair).2.1.width).1])) (ftake s.fair).1) (out ++ [seated (ftake s.fair).2.1 (fits s (ftake s.fair).2.1.width).1])
      simp only [List.length_append, List.length_cons, List.length_nil] at this
      omega
    · simp only []; omega
structure okX (X : TState) : Prop where
  f : okF 1000 1000 X.fair
  r : X.running.length ≤ 2000000
theorem okX_zero : okX zeroS := ⟨zero_okF _ _, by simp [zeroS, noT]⟩
theorem larrive_X {s : TState} (t : TTicket) (hand : List Int) (hf : okF 100 100 s.fair) (hr : s.running.length ≤ 300) : okX (larrive s t hand).1 := by
  have h1 := (okF_join hf hand (seated t 0)).mono (n' := 1000) (m' := 1000) (by omega) (by omega)
  have h2 := hf.mono (n' := 1000) (m' := 1000) (by omega) (by omega)
  unfold larrive
  split
  · exact okX_zero
  · split
    · split
      · exact ⟨h1, by simp only [withFair]; omega⟩
      · exact okX_zero
    · split
      · exact okX_zero
      · split
        · exact ⟨h2, by simp only [withRun, List.length_append, List.length_cons, List.length_nil]; omega⟩
        · exact okX_zero
theorem ldispN_X {n m : Nat} : ∀ (k : Nat) (s : TState) (out : List TTicket), okF n m s.fair → okF n m (ldispN k s out).1.fair ∧ (ldispN k s out).1.running.length ≤ s.running.length + k
  | 0, s, out, h => ⟨h, Nat.le_refl _⟩
  | k + 1, s, out, h => by
    rw [ldispN]
    split
    · obtain ⟨h1, h2⟩ := ldispN_X k (withFair (withRun s (s.running ++ [seated (ftake s.fair).2.1 (fits s (ftake s.fair).2.1.width).1])) (ftake s.fair).1) (out ++ [seated (ftake s.fair).2.1 (fits s (ftake s.fair).2.1.width).1]) (okF_take h)
      refine ⟨h1, ?_⟩
      simp only [withFair, withRun, List.length_append, List.length_cons, List.length_nil] at h2 ⊢
      omega
    · exact ⟨h, by simp only []; omega⟩
theorem ldispatch_X {s : TState} (hf : okF 100 100 s.fair) (hr : s.running.length ≤ 300) : okX (ldispatch s).1 ∧ (ldispatch s).2.length ≤ 1000000 := by
  have h1 := ldispN_X (tot s.fair) s [] hf
  have h2 := tot_le hf
  have h3 := ldispN_len (tot s.fair) s []
  simp only [List.length_nil] at h3
  unfold ldispatch
  exact ⟨⟨h1.1.mono (by omega) (by omega), by omega⟩, by omega⟩
theorem lopen_X (l : TLevel) : okX (lopen l) := by
  refine ⟨?_, by simp [lopen, noT]⟩
  unfold lopen
  simp only []
  split
  · exact okF_new (by omega) _ _ _
  · exact zero_okF _ _
theorem ldone_X {s : TState} (id : Int) (hf : okF 100 100 s.fair) (hr : s.running.length ≤ 300) : okX (ldone s id).1 := by
  unfold ldone
  split
  · exact okX_zero
  · have := List.length_eraseIdx_le s.running (idx (fun t => t.iD == id) s.running).toNat
    exact ⟨hf.mono (by omega) (by omega), by simp only [withRun]; omega⟩
theorem ldrop_X {s : TState} (id : Int) (hf : okF 100 100 s.fair) (hr : s.running.length ≤ 300) : okX (ldrop s id).1 := by
  unfold ldrop
  split
  · exact ⟨(okF_drop hf id).mono (by omega) (by omega), by simp only [withFair]; omega⟩
  · exact okX_zero
theorem llate_X {s : TState} (now : Int) (hf : okF 100 100 s.fair) (hr : s.running.length ≤ 300) : okX (llate s now).1 ∧ (llate s now).2.length ≤ 1000000 := by
  have h2 := hf.mono (n' := 1000) (m' := 1000) (by omega) (by omega)
  refine ⟨⟨?_, by simp only [llate, withFair]; omega⟩, by simp only [llate, ss_len]; exact lateL_le h2 now⟩
  simp only [llate, withFair]
  split
  · exact h2
  · exact (okF_lateF h2 _).trim
theorem lturn_X {s : TState} (l : TLevel) (q : Bool) (hf : okF 100 100 s.fair) (hr : s.running.length ≤ 300) : okX (lturn s l q) := by
  have h2 := hf.mono (n' := 1000) (m' := 1000) (by omega) (by omega)
  refine ⟨?_, by simp only [lturn]; omega⟩
  simp only [lturn]
  split
  · exact okF_shape h2 (by omega) _ _ _
  · exact okF_shut h2
theorem smallS_X {s : TState} (hf : s.fair.wf) (h : smallS s = true) : okF 100 100 s.fair ∧ s.running.length ≤ 300 := by
  simp only [smallS, Bool.and_eq_true, decide_eq_true_eq, List.all_eq_true] at h
  exact ⟨⟨h.1.1, fun l hl => ⟨(hf.2.2.2.2.2 l hl).1.1, by have := h.2.1 l hl; omega⟩⟩, h.1.2⟩

theorem levelAll_ok (s : TState) (t : TTicket) (hand : List Int) (now : Int) (l : TLevel) (hw : s.wf) (hh : hand.length ≤ maxLen) : PCall Try.prog 17 [.agg (Enc.enc s), .agg (Enc.enc t), .sl (rws hand) none, .int .i64 now, .agg (Enc.enc l)] (· = .bool true) := by
  obtain ⟨_, _, hwl, _, _, hwf, hwr⟩ := hw
  have c0 := awake23_ok
  have cs := smallS_ok s hwf hwr.1
  have hh2 := hh
  unfold maxLen at hh2
  by_cases hs : smallS s = true
  · rw [hs] at cs
    obtain ⟨hf, hr⟩ := smallS_X hwf hs
    rcases Nat.lt_or_ge 100 hand.length with h1 | h1
    · refine PCall_intro (c := Try.f17.body.getD .skip) Try.func17 rfl (by decide +kernel) Zf (W_start ?_)
      simp only [Try.f17, go_sem]
      repeat' first | refine Z0 ?_ | refine Zx ?_ | refine Zc c0 ?_ | refine Zc cs ?_ | (refine Ze ?_; clear hK K) | refine W_reg fun K hK => ?_ | refine W_drwR rfl mixed (by decide +kernel) fun K hK => ?_ | refine W_drw mixed (by decide +kernel) fun K hK => ?_ | (refine Zb ?_ ?_ <;> intro hb <;> first | (simp (disch := omega) only [go_sem] at hb; done) | (simp (disch := omega) only [go_sem] at hb; try omega) | try omega) | (refine Zl ?_; intro bn hnil; (try simp (disch := omega) only [go_sem] at hnil); dsimp only [putT, List.set_cons_succ, List.set_cons_zero])
      exact Zr
    · have hf2 := hf.mono (n' := 1000) (m' := 1000) (by omega) (by omega)
      have k1 := scopyP_ok s hf2 (by omega)
      have s0 := fun (X : TState) (h : okX X) => ssame_ok X h.f h.r
      have a1 := larrive_ok s t hand hf2 (by omega) hwl.2 hh
      have a2 := sarrive_ok s t hand hf2 (by omega) hwl.2 hh
      have a3 := s0 _ (larrive_X t hand hf hr)
      have b1 := lopen_ok l
      have b2 := sopen_ok l
      have b3 := s0 _ (lopen_X l)
      have c1 := ldispatch_ok s hf2 (by omega) hwl.2
      have c2 := sdispatch_ok s hf2 (by omega) hwl.2
      have c3 := s0 _ (ldispatch_X hf hr).1
      have c4 := sameT_ok (ldispatch s).2 (ldispatch s).2 (by have := (ldispatch_X hf hr).2; omega) (by have := (ldispatch_X hf hr).2; omega)
      have d1 := ldone_ok s t.iD hf2 (by omega)
      have d2 := sdone_ok s t.iD hf2 (by omega)
      have d3 := s0 _ (ldone_X t.iD hf hr)
      have e1 := ldrop_ok s t.iD hf2 (by omega)
      have e2 := sdrop_ok s t.iD hf2 (by omega)
      have e3 := s0 _ (ldrop_X t.iD hf hr)
      have f1 := llate_ok s now hf2 (by omega)
      have f2 := slate_ok s now hf2 (by omega)
      have f3 := s0 _ (llate_X now hf hr).1
      have f4 := sameT_ok (llate s now).2 (llate s now).2 (by have := (llate_X now hf hr).2; omega) (by have := (llate_X now hf hr).2; omega)
      have g1 := lturn_ok s l (decide (now.tmod 2 = 0)) hf2 (by omega)
      have g2 := sturn_ok s l (decide (now.tmod 2 = 0)) hf2 (by omega)
      have g3 := s0 _ (lturn_X l (decide (now.tmod 2 = 0)) hf hr)
      have i1 := lfits_ok s t.width (by omega) hwl.2
      have i2 := sfits_ok s t.width (by omega) hwl.2
      have i3 := lruns_ok s (by omega)
      have i4 := sruns_ok s (by omega)
      have i5 := lwants_ok s hf2 (by omega)
      have i6 := swants_ok s hf2 (by omega)
      have i7 := lempty_ok s hf2 (by omega)
      have i8 := sempty_ok s hf2 (by omega)
      have i9 := s0 s ⟨hf2, by omega⟩
      simp only [decide_true] at c4 f4
      simp only [stE, stT, stL] at a1 a2 c1 c2 d1 d2 e1 e2 f1 f2
      generalize larrive s t hand = A at *
      obtain ⟨A, aa⟩ := A
      generalize lopen l = O at *
      generalize ldispatch s = C at *
      obtain ⟨C, cc⟩ := C
      generalize ldone s t.iD = D at *
      obtain ⟨D, dt, dd⟩ := D
      generalize ldrop s t.iD = E at *
      obtain ⟨E, et, ee⟩ := E
      generalize llate s now = F at *
      obtain ⟨F, ff⟩ := F
      generalize lturn s l (decide (now.tmod 2 = 0)) = G at *
      generalize fits s t.width = I at *
      obtain ⟨I, ib⟩ := I
      generalize runsL s.running = J at *
      generalize wants s = K1 at *
      generalize lempty s = K2 at *
      dsimp only at a1 a2 a3 c1 c2 c3 c4 d1 d2 d3 e1 e2 e3 f1 f2 f3 f4 i1 i2
      have q1 := decide_eq_true (rfl : dt = dt)
      have q2 := decide_eq_true (rfl : et = et)
      clear s0 hf hf2 hwf hwr
      refine PCall_intro (c := Try.f17.body.getD .skip) Try.func17 rfl (by decide +kernel) Zf (W_start ?_)
      simp only [Try.f17, go_sem]
      repeat' first | refine Z0 ?_ | refine Zx ?_ | refine Zc c0 ?_ | refine Zc cs ?_ | refine Zc k1 ?_ | refine Zc a1 ?_ | refine Zc a2 ?_ | refine Zc a3 ?_ | refine Zc b1 ?_ | refine Zc b2 ?_ | refine Zc b3 ?_ | (refine Ze ?_; clear hK K) | refine W_regNe 10 (by decide) fun K hK => ?_ | refine W_drwRNe 10 (by decide) rfl mixed (by decide +kernel) fun K hK => ?_ | refine W_drwNe 10 (by decide) mixed (by decide +kernel) fun K hK => ?_ | (refine Zb ?_ ?_ <;> intro hb <;> first | (simp (disch := omega) only [go_sem] at hb; done) | (simp (disch := omega) only [go_sem] at hb; try omega) | try omega) | (refine Zl ?_; intro bn hnil; (try simp (disch := omega) only [go_sem] at hnil); dsimp only [putT, List.set_cons_succ, List.set_cons_zero])
      as_aux_lemma =>
        repeat' first | refine Z0 ?_ | refine Zx ?_ | refine Zc c1 ?_ | refine Zc c2 ?_ | refine Zc c3 ?_ | refine Zc c4 ?_ | (refine Ze ?_; clear hK K) | refine W_regNe 14 (by decide) fun K hK => ?_ | refine W_drwRNe 14 (by decide) rfl mixed (by decide +kernel) fun K hK => ?_ | refine W_drwNe 14 (by decide) mixed (by decide +kernel) fun K hK => ?_ | (refine Zb ?_ ?_ <;> intro hb <;> first | (simp (disch := omega) only [go_sem] at hb; done) | (simp (disch := omega) only [go_sem] at hb; try omega) | try omega) | (refine Zl ?_; intro bn hnil; (try simp (disch := omega) only [go_sem] at hnil); dsimp only [putT, List.set_cons_succ, List.set_cons_zero])
        as_aux_lemma =>
          have zz1 := q1
          repeat' first | refine Z1 ?_ | refine Zx ?_ | refine Zc d1 ?_ | refine Zc d2 ?_ | refine Zc d3 ?_ | (refine Ze ?_; clear hK K) | refine W_regNe 18 (by decide) fun K hK => ?_ | refine W_drwRNe 18 (by decide) rfl mixed (by decide +kernel) fun K hK => ?_ | refine W_drwNe 18 (by decide) mixed (by decide +kernel) fun K hK => ?_ | (refine Zb ?_ ?_ <;> intro hb <;> first | (simp (disch := omega) only [go_sem, zz1] at hb; done) | (simp (disch := omega) only [go_sem, zz1] at hb; try omega) | try omega) | (refine Zl ?_; intro bn hnil; (try simp (disch := omega) only [go_sem, zz1] at hnil); dsimp only [putT, List.set_cons_succ, List.set_cons_zero])
          as_aux_lemma =>
            have zz1 := q2
            repeat' first | refine Z1 ?_ | refine Zx ?_ | refine Zc e1 ?_ | refine Zc e2 ?_ | refine Zc e3 ?_ | (refine Ze ?_; clear hK K) | refine W_regNe 22 (by decide) fun K hK => ?_ | refine W_drwRNe 22 (by decide) rfl mixed (by decide +kernel) fun K hK => ?_ | refine W_drwNe 22 (by decide) mixed (by decide +kernel) fun K hK => ?_ | (refine Zb ?_ ?_ <;> intro hb <;> first | (simp (disch := omega) only [go_sem, zz1] at hb; done) | (simp (disch := omega) only [go_sem, zz1] at hb; try omega) | try omega) | (refine Zl ?_; intro bn hnil; (try simp (disch := omega) only [go_sem, zz1] at hnil); dsimp only [putT, List.set_cons_succ, List.set_cons_zero])
            as_aux_lemma =>
              repeat' first | refine Z0 ?_ | refine Zx ?_ | refine Zc f1 ?_ | refine Zc f2 ?_ | refine Zc f3 ?_ | refine Zc f4 ?_ | refine Zc g1 ?_ | refine Zc g2 ?_ | refine Zc g3 ?_ | (refine Ze ?_; clear hK K) | refine W_regNe 26 (by decide) fun K hK => ?_ | refine W_drwRNe 26 (by decide) rfl mixed (by decide +kernel) fun K hK => ?_ | refine W_drwNe 26 (by decide) mixed (by decide +kernel) fun K hK => ?_ | (refine Zb ?_ ?_ <;> intro hb <;> first | (simp (disch := omega) only [go_sem] at hb; done) | (simp (disch := omega) only [go_sem] at hb; try omega) | try omega) | (refine Zl ?_; intro bn hnil; (try simp (disch := omega) only [go_sem] at hnil); dsimp only [putT, List.set_cons_succ, List.set_cons_zero])
              as_aux_lemma =>
                repeat' first | refine Z0 ?_ | refine Zx ?_ | refine Zc i1 ?_ | refine Zc i2 ?_ | refine Zc i3 ?_ | refine Zc i4 ?_ | refine Zc i5 ?_ | refine Zc i6 ?_ | refine Zc i7 ?_ | refine Zc i8 ?_ | refine Zc i9 ?_ | (refine Ze ?_; clear hK K) | refine W_reg fun K hK => ?_ | refine W_drwR rfl mixed (by decide +kernel) fun K hK => ?_ | refine W_drw mixed (by decide +kernel) fun K hK => ?_ | (refine Zb ?_ ?_ <;> intro hb <;> first | (simp (disch := omega) only [go_sem] at hb; done) | (simp (disch := omega) only [go_sem] at hb; try omega) | try omega) | (refine Zl ?_; intro bn hnil; (try simp (disch := omega) only [go_sem] at hnil); dsimp only [putT, List.set_cons_succ, List.set_cons_zero])
                exact Zr
  · have hs := Bool.eq_false_iff.2 hs
    rw [hs] at cs
    refine PCall_intro (c := Try.f17.body.getD .skip) Try.func17 rfl (by decide +kernel) Zf (W_start ?_)
    simp only [Try.f17, go_sem]
    repeat' first | refine Z0 ?_ | refine Zx ?_ | refine Zc c0 ?_ | refine Zc cs ?_ | (refine Ze ?_; clear hK K) | refine W_reg fun K hK => ?_ | refine W_drwR rfl mixed (by decide +kernel) fun K hK => ?_ | refine W_drw mixed (by decide +kernel) fun K hK => ?_ | (refine Zb ?_ ?_ <;> intro hb <;> first | (simp (disch := omega) only [go_sem] at hb; done) | (simp (disch := omega) only [go_sem] at hb; try omega) | try omega) | (refine Zl ?_; intro bn hnil; (try simp (disch := omega) only [go_sem] at hnil); dsimp only [putT, List.set_cons_succ, List.set_cons_zero])
    exact Zr

end Go.Proofs.Ytdgjelfeclgolaa
