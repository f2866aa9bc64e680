/-
  Lanes that take turns: the law FairPlays; walked.
-/
import Derived.Test.YtdgjelfeclgolaaF14
namespace Go.Proofs.Ytdgjelfeclgolaa
open Go Go.AM
set_option maxHeartbeats 8000000
set_option maxRecDepth 8000
set_option linter.unusedSimpArgs false
set_option linter.unusedVariables false

theorem wkHT {h h' : Heap} (e : ∀ id o, lk h' id = some o → lk h id = some o := by first | ((repeat first | exact lk_same _ | apply sub_keep | (refine sub_drop ?_ rfl) | (apply sub_keepE; (case e => first | (simp; done) | (simp [rws]; done) | fail))); done) | fail) : ∀ id o, lk h' id = some o → lk h id = some o := e

theorem fairPlays_ok (o g n : Int) (l : List TOp22) (hl : l.length ≤ maxLen) (hw : ∀ x, x ∈ l → x.wf) : PCall Try.prog 12 [.int .i64 o, .int .i64 g, .int .i64 n, .sl (rws l) none] (· = .bool true) := by
  have c0 := awake22_ok
  unfold maxLen at hl
  have a1 := fnew_ok o g n
  have a2 := rnew_ok o g n
  have a4 := okF_new (n := 64) (m := 0) (by omega) o g n
  have a3 := fsame_ok (fnew o g n).1 (fnew o g n).1 (a4.mono (by omega) (by omega)) (a4.mono (by omega) (by omega))
  simp only [shapeV, decide_true] at a1 a2 a3
  generalize fnew o g n = A at *
  obtain ⟨A, e⟩ := A
  dsimp only at a1 a2 a3 a4
  refine PCall_intro (c := Try.f12.body.getD .skip) Try.func12 rfl (by decide +kernel) Zf (W_start ?_)
  simp only [Try.f12, go_sem]
  by_cases he : e = 0
  · subst he
    repeat' first
      | refine Z0 ?_
      | refine Zx ?_
      | refine Zc c0 ?_
      | refine Zc a1 ?_
      | refine Zc a2 ?_
      | refine Zc a3 ?_
      | (refine Ze ?_; clear hK K)
      | refine W_reg fun K hK => ?_
      | refine W_drwR rfl mixed (by decide +kernel) fun K hK => ?_
      | refine W_drw mixed (by decide +kernel) fun K hK => ?_
      | (refine Zb ?_ ?_ <;> intro hb <;> first | (simp (disch := omega) only [go_sem] at hb; done) | (simp (disch := omega) only [go_sem] at hb; try omega) | try omega)
      | (refine Zl ?_; intro bn hnil; (try simp (disch := omega) only [go_sem] at hnil); dsimp only [putT, List.set_cons_succ, List.set_cons_zero])
    refine W_foldM (fun (a : Nat × TFair) => [none, none, none, none, none, none, none, none, some .junk, none, none, none, none, some (.int .i64 a.1), some .junk, some .junk, some .junk, some .junk, some .junk, some .junk, some .junk, some .junk, some .junk, some .junk, some .junk, some .junk, some .junk, some .junk, some .junk, some .junk, some .junk, some .junk, some .junk, some .junk, some .junk, some .junk, some .junk, some .junk, some .junk, none, none, none, none, none, none, none, none, none, none, none, none, none, none, none, none, none, none, none, none, none, none, none, none, none, none, none, some .junk, some .junk, some .junk, some .junk, some .junk, some .junk, some .junk, some .junk, some .junk, some .junk, some .junk, some .junk, some .junk, some .junk, some .junk, some .junk, some .junk, some .junk, some .junk, some .junk, some .junk, some .junk, some .junk, some .junk, some .junk, some .junk, some .junk, some .junk, some .junk, some .junk, some .junk, some .junk, some .junk, some .junk, some .junk, some .junk, some .junk, some .junk, some .junk, some .junk, some .junk, some .junk, some .junk, some .junk, some .junk, some .junk, some .junk, some .junk, some .junk, some .junk, some .junk, some .junk, some .junk, some .junk, some .junk, some .junk, some .junk, some .junk, some .junk, some .junk, some .junk, some .junk, some .junk, some .junk, some .junk, some .junk, some .junk, some .junk, some .junk, some .junk, some .junk, some .junk, some .junk, some .junk, some .junk, some .junk, some .junk, some .junk, some .junk, some .junk, some .junk, some .junk, some .junk, some .junk, some .junk, some .junk, some .junk, some .junk, some .junk, some .junk, some .junk, some .junk, some .junk, some .junk, some .junk, some .junk, some .junk, some .junk, some .junk, some .junk, some .junk, some .junk, some .junk, some .junk, some .junk, some .junk, some .junk, some .junk, some .junk, some .junk, some .junk, some .junk, some .junk, some .junk, some .junk, some .junk, some .junk, some .junk, some .junk, some .junk, some .junk, some .junk, some .junk, some .junk, some .junk, some .junk, some .junk, some .junk, some .junk, some .junk, some .junk, some .junk, some .junk, some .junk, some .junk, some .junk, some .junk, some .junk, some .junk, some .junk, some .junk, some .junk, some .junk, some .junk, some .junk, some .junk, some .junk, some .junk, some .junk, some .junk, some .junk, some .junk, some .junk, some .junk, some .junk]) (fun a => [(20, .arr 5 [[.int .u64 a.2.r, .int .i64 a.2.guess, .int .i64 a.2.length, .int .i64 a.2.open_, .sl (rws a.2.lanes) none]]), (10, .arr 5 [[.int .u64 a.2.r, .int .i64 a.2.guess, .int .i64 a.2.length, .int .i64 a.2.open_, .sl (rws a.2.lanes) none]])])
      (fun a => a.1 ≤ l.length ∧ a.1 ≤ 120 ∧ okF 64 a.1 a.2) (fun a => l.length - a.1) (0, A) ⟨by simp, by simp, a4⟩ (by exact weak_mk wkD wkH wkN wkM (by omega)) ?_
    rintro ⟨i, F⟩ ⟨hi, h120, hF⟩
    simp only [] at hi h120 hF
    simp only [msk_none, msk_some, msk_nil]
    rcases Nat.lt_or_ge i l.length with h4 | h4
    · rcases Nat.lt_or_ge i 120 with h5 | h5
      · obtain ⟨x, hx⟩ := some_of_lt h4
        have hF2 := hF.mono (n' := 1000) (m' := 1000) (by omega) (by omega)
        have hF3 := hF.mono (n' := 64) (m' := i + 1) (by omega) (by omega)
        obtain ⟨k, hk⟩ : ∃ k : Nat, min (x.hand.length : Int) 20 = k := ⟨min x.hand.length 20, by omega⟩
        have hk2 : k ≤ x.hand.length := by omega
        have r1 : List.take k (rws x.hand) = rws (x.hand.take k) := rws_take _ _
        have r2 : (x.hand.take k).length = k := by simp; omega
        have hH : (x.hand.take k).length ≤ maxLen := by unfold maxLen; omega
        have k1 := fcopyP_ok F hF2
        have c1 := fjoin_ok F (x.hand.take k) x.t hF2 hH
        have c2 := rfjoin_ok F (x.hand.take k) x.t hF2 hH
        have m1 := okF_join hF (x.hand.take k) x.t
        have c3 := ftake_ok F hF2
        have c4 := rftake_ok F hF2
        have m2 := okF_take hF3
        have c5 := fdrop_ok F x.t.iD hF2
        have c6 := rfdrop_ok F x.t.iD hF2
        have m3 := okF_drop hF3 x.t.iD
        have c7 := shape_ok F x.open_ g n hF2
        have c8 := rshape_ok F x.open_ g n hF2
        have m4 := okF_shape hF3 (by omega) x.open_ g n
        simp only [joinV, fairV, shapeV] at c1 c2 c3 c4 c5 c6 c7 c8
        generalize x.hand.take k = H at *
        generalize fjoin F H x.t = J at *
        obtain ⟨J, jk, je⟩ := J
        generalize ftake F = T at *
        obtain ⟨T, tt, to⟩ := T
        generalize fdrop F x.t.iD = D at *
        obtain ⟨D, dt, do_⟩ := D
        generalize shape F x.open_ g n = S at *
        obtain ⟨S, se⟩ := S
        dsimp only at c1 c2 c3 c4 c5 c6 c7 c8 m1 m2 m3 m4
        have s1 := fun (X : TFair) (h : okF 64 (i + 1) X) => fsame_ok X X (h.mono (by omega) (by omega)) (h.mono (by omega) (by omega))
        simp only [decide_true] at s1
        have d0 := s1 F hF3
        have d1 := s1 J m1
        have d2 := s1 T m2
        have d3 := s1 D m3
        have d4 := s1 S m4
        clear s1
        have zz1 := rws_get hx
        have zz2 := hk
        have zz3 := r1
        repeat' first
          | refine Z3 ?_
          | refine Zx ?_
          | refine Zc k1 ?_
          | refine Zc c1 ?_
          | refine Zc c2 ?_
          | refine Zc c3 ?_
          | refine Zc c4 ?_
          | refine Zc c5 ?_
          | refine Zc c6 ?_
          | refine Zc c7 ?_
          | refine Zc c8 ?_
          | refine Zc d0 ?_
          | refine Zc d1 ?_
          | refine Zc d2 ?_
          | refine Zc d3 ?_
          | refine Zc d4 ?_
          | (refine Ze ?_; clear hK K)
          | refine W_reg fun K hK => ?_
          | refine W_drwR rfl mixed (by decide +kernel) fun K hK => ?_
          | refine W_drw mixed (by decide +kernel) fun K hK => ?_
          | (refine Zb ?_ ?_ <;> intro hb <;> first | (simp (disch := omega) only [go_sem, zz1, zz2, zz3] at hb; done) | (simp (disch := omega) only [go_sem, zz1, zz2, zz3] at hb; try omega) | try omega)
          | (refine Zl ?_; intro bn hnil; (try simp (disch := omega) only [go_sem, zz1, zz2, zz3] at hnil); dsimp only [putT, List.set_cons_succ, List.set_cons_zero])
        all_goals first
          | exact L_next ⟨(i + 1, F), by simp; omega, ⟨by simp; omega, by simp; omega, hF3⟩, (by exact weak_mk wkDT wkHT wkNT wkMT (by omega))⟩
          | exact L_next ⟨(i + 1, J), by simp; omega, ⟨by simp; omega, by simp; omega, m1⟩, (by exact weak_mk wkDT wkHT wkNT wkMT (by omega))⟩
          | exact L_next ⟨(i + 1, T), by simp; omega, ⟨by simp; omega, by simp; omega, m2⟩, (by exact weak_mk wkDT wkHT wkNT wkMT (by omega))⟩
          | exact L_next ⟨(i + 1, D), by simp; omega, ⟨by simp; omega, by simp; omega, m3⟩, (by exact weak_mk wkDT wkHT wkNT wkMT (by omega))⟩
          | exact L_next ⟨(i + 1, S), by simp; omega, ⟨by simp; omega, by simp; omega, m4⟩, (by exact weak_mk wkDT wkHT wkNT wkMT (by omega))⟩
      · repeat' first
          | refine Z0 ?_
          | refine Zx ?_
          | (refine Ze ?_; clear hK K)
          | refine W_reg fun K hK => ?_
          | refine W_drwR rfl mixed (by decide +kernel) fun K hK => ?_
          | refine W_drw mixed (by decide +kernel) fun K hK => ?_
          | (refine Zb ?_ ?_ <;> intro hb <;> first | (simp (disch := omega) only [go_sem] at hb; done) | (simp (disch := omega) only [go_sem] at hb; try omega) | try omega)
          | (refine Zl ?_; intro bn hnil; (try simp (disch := omega) only [go_sem] at hnil); dsimp only [putT, List.set_cons_succ, List.set_cons_zero])
        exact Zr
    · repeat' first
        | refine Z0 ?_
        | refine Zx ?_
        | (refine Ze ?_; clear hK K)
        | refine W_reg fun K hK => ?_
        | refine W_drwR rfl mixed (by decide +kernel) fun K hK => ?_
        | refine W_drw mixed (by decide +kernel) fun K hK => ?_
        | (refine Zb ?_ ?_ <;> intro hb <;> first | (simp (disch := omega) only [go_sem] at hb; done) | (simp (disch := omega) only [go_sem] at hb; try omega) | try omega)
        | (refine Zl ?_; intro bn hnil; (try simp (disch := omega) only [go_sem] at hnil); dsimp only [putT, List.set_cons_succ, List.set_cons_zero])
      exact Zr
  · repeat' first
      | refine Z0 ?_
      | refine Zx ?_
      | refine Zc c0 ?_
      | refine Zc a1 ?_
      | refine Zc a2 ?_
      | refine Zc a3 ?_
      | (refine Ze ?_; clear hK K)
      | refine W_reg fun K hK => ?_
      | refine W_drwR rfl mixed (by decide +kernel) fun K hK => ?_
      | refine W_drw mixed (by decide +kernel) fun K hK => ?_
      | (refine Zb ?_ ?_ <;> intro hb <;> first | (simp (disch := omega) only [go_sem] at hb; done) | (simp (disch := omega) only [go_sem] at hb; try omega) | try omega)
      | (refine Zl ?_; intro bn hnil; (try simp (disch := omega) only [go_sem] at hnil); dsimp only [putT, List.set_cons_succ, List.set_cons_zero])
    exact Zr

end Go.Proofs.Ytdgjelfeclgolaa
