/-
  Lanes that take turns: the law FairDrains; walked.
-/
import Derived.Test.YtdgjelfeclgolaaF17
namespace Go.Proofs.Ytdgjelfeclgolaa
open Go Go.AM
set_option maxHeartbeats 8000000
set_option maxRecDepth 8000
set_option linter.unusedSimpArgs false
set_option linter.unusedVariables false

theorem trimN_zero {l : List TLane} (h : ∀ x, x ∈ l → x.wait.length = 0) : ∀ n, n ≤ l.length → trimN 0 l n = 0
  | 0, _ => rfl
  | n + 1, hn => by
    obtain ⟨x, hx⟩ := some_of_lt (l := l) (i := n) (by omega)
    rw [trimN, getD_of hx, if_pos ⟨by omega, h x (List.mem_of_getElem? hx)⟩, trimN_zero h n (by omega)]

/-- Lanes that are shut, and all of them trimmed: none is left when nobody waits. -/
theorem trim_none {G : TFair} (ho : G.open_ = 0) (hw : waiting (ftrim G) = 0) : (ftrim G).lanes = [] := by
  rw [waiting_trim] at hw
  rw [ftrim, ho, trimN_zero (waiting_zero hw) _ (Nat.le_refl _)]
  rfl

theorem first_row' (l : TLane) (t : TTicket) (w : List TTicket) (h : l.wait = t :: w) : (rws l.wait)[0]? = some (Enc.enc t) := by rw [h]; rfl

theorem fairDrains_ok (o g : Int) (us : List TTurn) (hl : us.length ≤ maxLen) : PCall Try.prog 11 [.int .i64 o, .int .i64 g, .sl (rws us) none] (· = .bool true) := by
  have c0 := awake22_ok
  have c1 := run_ok o g us hl
  by_cases hm : mayB o g 64 = true
  · have ho := (mayB_iff o g 64).1 hm
    have e0 : runOut o g us = ((runS (fnew o g 64).1 us (min us.length 300)).2.1, (runS (fnew o g 64).1 us (min us.length 300)).2.2.1, (runS (fnew o g 64).1 us (min us.length 300)).2.2.2, true) := if_pos hm
    rw [e0] at c1
    obtain ⟨i0, i1⟩ := inv_new (m := 16) hm
    have len := (runS_len (fnew o g 64).1 us (min us.length 300) (by omega)).1
    have get := runS_get (fnew o g 64).1 us (min us.length 300) (by omega)
    have hinv := inv_run (us := us) i0 (by omega) (by omega)
    simp only [runV] at c1
    generalize hS : runS (fnew o g 64).1 us = S at *
    clear hS i0 i1 e0
    generalize hn : min us.length 300 = n at *
    generalize (S n).2.2.1 = B at *
    generalize (S n).2.2.2 = C at *
    generalize (S n).2.1 = A at *
    rcases n with _ | n
    · obtain rfl : A = [] := List.length_eq_zero_iff.1 len
      refine PCall_intro (c := Try.f11.body.getD .skip) Try.func11 rfl (by decide +kernel) Zf (W_start ?_)
      simp only [Try.f11, go_sem]
      repeat' first
        | refine Z0 ?_
        | refine Zx ?_
        | refine Zc c0 ?_
        | refine Zc c1 ?_
        | (refine Ze ?_; clear hK K)
        | refine W_reg fun K hK => ?_
        | refine W_drwR rfl mixed (by decide +kernel) fun K hK => ?_
        | refine W_drw mixed (by decide +kernel) fun K hK => ?_
        | (refine Zb ?_ ?_ <;> intro hb <;> first | (simp (disch := omega) only [go_sem] at hb; done) | (simp (disch := omega) only [go_sem] at hb; try omega) | try omega)
        | (refine Zl ?_; intro bn hnil; (try simp (disch := omega) only [go_sem] at hnil); dsimp only [putT, List.set_cons_succ, List.set_cons_zero])
      exact Zr
    · obtain ⟨u, hu⟩ := some_of_lt (l := us) (i := n) (by omega)
      have hx := (get n u (by omega) hu).1
      have hF := (hinv (n + 1) (by omega) (by omega) fun j v _ _ => by unfold clampW; omega).okF (by omega)
      generalize (S (n + 1)).1 = F at *
      have hF2 := hF.mono (n' := 1000) (m' := 1000) (by omega) (by omega)
      have d1 := shut_ok F hF2
      have d2 := waiting_ok F hF2
      have hG := okF_shut hF
      have hG2 := hG.mono (n' := 1000) (m' := 1000) (by omega) (by omega)
      have d3 := waiting_ok (shut F) hG2
      have d4 := fseats_ok (shut F) hG2
      have q1 : waiting (shut F) = waiting F := waiting_trim _
      have q2 : ∃ G0 : TFair, shut F = ftrim G0 ∧ G0.open_ = 0 := ⟨_, rfl, rfl⟩
      have t1 : (((n + 1 : Nat) : Int) - 1).toNat = n := by omega
      rw [q1] at d3
      have q3 := waiting_nn F
      generalize shut F = G at *
      obtain ⟨N, hN⟩ : ∃ N : Nat, waiting F = N := ⟨(waiting F).toNat, by omega⟩
      have hNb : N ≤ 4096 := by
        have h1 := waiting_take 64 F.lanes (fun l hl => (hF.2 l hl).2) F.lanes.length
        rw [List.take_length] at h1
        have h2 := hF.1
        unfold waiting at hN
        omega
      rw [hN] at d2 d3 q1
      refine PCall_intro (c := Try.f11.body.getD .skip) Try.func11 rfl (by decide +kernel) Zf (W_start ?_)
      simp only [Try.f11, go_sem]
      have zz1 := len
      have zz2 := t1
      have zz3 := rws_get hx
      repeat' first
        | refine Z3 ?_
        | refine Zx ?_
        | refine Zc c0 ?_
        | refine Zc c1 ?_
        | refine Zc d1 ?_
        | refine Zc d2 ?_
        | refine Zc d3 ?_
        | refine Zc d4 ?_
        | (refine Ze ?_; clear hK K)
        | refine W_reg fun K hK => ?_
        | refine W_drwR rfl mixed (by decide +kernel) fun K hK => ?_
        | refine W_drw mixed (by decide +kernel) fun K hK => ?_
        | (refine Zb ?_ ?_ <;> intro hb <;> first | (simp (disch := omega) only [go_sem, zz1, zz2, zz3] at hb; done) | (simp (disch := omega) only [go_sem, zz1, zz2, zz3] at hb; try omega) | try omega)
        | (refine Zl ?_; intro bn hnil; (try simp (disch := omega) only [go_sem, zz1, zz2, zz3] at hnil); dsimp only [putT, List.set_cons_succ, List.set_cons_zero])
      refine W_foldM (fun (a : Nat × TFair) => [none, none, none, none, none, none, some .junk, none, none, none, none, none, none, some (.int .i64 (fseats a.2)), some (.int .i64 a.1), some .junk, some .junk, some .junk, some .junk, some .junk, none, none, none, none, none, none, none, none, none, none, none, none, none, none, none, none, none, none, none, none, none, none, none, none, none, none, none, none, none, none, none, none, none, none, none, none, none, none, none, none, none, some .junk, some .junk, some .junk, some .junk, some .junk, some .junk, some .junk, some .junk, some .junk, some .junk, some .junk, some .junk, some .junk, some .junk, some .junk, some .junk, some .junk, some .junk, some .junk, some .junk, some .junk, some .junk, some .junk, some .junk, some .junk, some .junk, some .junk, some .junk, some .junk, some .junk, some .junk, some .junk, some .junk, some .junk, some .junk, some .junk, some .junk, some .junk, some .junk, some .junk, some .junk, some .junk, some .junk, some .junk, some .junk, some .junk, some .junk, some .junk, some .junk, some .junk, some .junk, some .junk, some .junk, some .junk, some .junk, some .junk, some .junk, some .junk, some .junk, some .junk, some .junk, some .junk, some .junk, some .junk, some .junk, some .junk, some .junk, some .junk, some .junk, some .junk, some .junk, some .junk, some .junk, some .junk, some .junk, some .junk, some .junk]) (fun a => [(30, .arr 5 [[.int .u64 a.2.r, .int .i64 a.2.guess, .int .i64 a.2.length, .int .i64 a.2.open_, .sl (rws a.2.lanes) none]])])
        (fun a => a.1 ≤ N ∧ okF 64 64 a.2 ∧ waiting a.2 = (N : Int) - a.1 ∧ ∃ G0 : TFair, a.2 = ftrim G0 ∧ G0.open_ = 0) (fun a => N - a.1) (0, G) ⟨by simp, hG, by simp [q1], q2⟩ (by exact weak_mk wkD wkH wkN wkM (by omega)) ?_
      rintro ⟨i, H⟩ ⟨hi, hH, hW, hT⟩
      simp only [] at hi hH hW hT
      simp only [msk_none, msk_some, msk_nil]
      have hH2 := hH.mono (n' := 1000) (m' := 1000) (by omega) (by omega)
      have f1 := next_ok H hH2
      have f2 := ftake_ok H hH2
      simp only [fairV] at f2
      rcases Nat.lt_or_ge i N with h6 | h6
      · rcases take_spec H with ⟨_, e2, _⟩ | ⟨k, l, x, w, e1, e2, e3, e4, e5, e6, e7⟩
        · exfalso; omega
        · rw [e1, show max (k : Int) 0 = k by omega] at f1
          have hk := (List.getElem?_eq_some_iff.1 e2).1
          have hH3 := okF_take hH
          have f3 := waiting_ok (ftake H).1 (hH3.mono (by omega) (by omega))
          have f4 := fseats_ok (ftake H).1 (hH3.mono (by omega) (by omega))
          have f5 := rwid_ok x.width
          have f6 := fseats_take 64 H.lanes (fun l hl => (hH.2 l hl).2) H.lanes.length
          rw [List.take_length] at f6
          have f7 : 0 ≤ fseats H ∧ fseats H ≤ 1000000 := by have := hH.1; unfold fseats; omega
          have f8 := wid_le x.width
          rw [e5, hW] at f3
          rw [e6] at f4
          have hT2 : ∃ G0 : TFair, (ftake H).1 = ftrim G0 ∧ G0.open_ = 0 := by
            refine ⟨_, e7, ?_⟩
            obtain ⟨G0, z1, z2⟩ := hT
            rw [z1]
            exact z2
          have hlen : (ftake H).1.lanes.length ≤ H.lanes.length := by
            rw [e7]
            simp only [ftrim, List.length_take, List.length_set]
            omega
          clear e7 hT
          generalize ftake H = T at *
          obtain ⟨T, y, ok⟩ := T
          simp only [Prod.mk.injEq] at e4
          obtain ⟨rfl, rfl⟩ := e4
          dsimp only at f2 f3 f4 e5 e6 hH3 hT2 hlen
          have hl := (hH.2 l (List.mem_of_getElem? e2)).2
          have hr := first_row' l y w e3
          have hl2 : l.wait.length = w.length + 1 := by rw [e3]; rfl
          have zz1 := rws_get e2
          have zz2 := hr
          repeat' first
            | refine Z2 ?_
            | refine Zx ?_
            | refine Zc f1 ?_
            | refine Zc f2 ?_
            | refine Zc f3 ?_
            | refine Zc f4 ?_
            | refine Zc f5 ?_
            | (refine Ze ?_; clear hK K)
            | refine W_reg fun K hK => ?_
            | refine W_drwR rfl mixed (by decide +kernel) fun K hK => ?_
            | refine W_drw mixed (by decide +kernel) fun K hK => ?_
            | (refine Zb ?_ ?_ <;> intro hb <;> first | (simp (disch := omega) only [go_sem, zz1, zz2] at hb; done) | (simp (disch := omega) only [go_sem, zz1, zz2] at hb; try omega) | try omega)
            | (refine Zl ?_; intro bn hnil; (try simp (disch := omega) only [go_sem, zz1, zz2] at hnil); dsimp only [putT, List.set_cons_succ, List.set_cons_zero])
          exact L_next ⟨(i + 1, T), by simp; omega, ⟨by simp; omega, hH3, by simp; omega, hT2⟩, (by simp only [e6]; exact (by exact weak_mk wkD wkH wkN wkM (by omega)))⟩
      · have hz : waiting H = 0 := by omega
        rcases take_spec H with ⟨e1, e2, e3⟩ | ⟨k, l, x, w, e1, e2, e3, e4, e5, e6, e7⟩
        · obtain ⟨G0, rfl, z2⟩ := hT
          have z3 : (ftrim G0).lanes.length = 0 := by rw [trim_none z2 hz]; rfl
          have z4 := fseats_none (waiting_zero hz)
          rw [e3] at f2
          rw [z4]
          generalize ftrim G0 = H at *
          have zz1 := z3
          repeat' first
            | refine Z1 ?_
            | refine Zx ?_
            | refine Zc f2 ?_
            | (refine Ze ?_; clear hK K)
            | refine W_reg fun K hK => ?_
            | refine W_drwR rfl mixed (by decide +kernel) fun K hK => ?_
            | refine W_drw mixed (by decide +kernel) fun K hK => ?_
            | (refine Zb ?_ ?_ <;> intro hb <;> first | (simp (disch := omega) only [go_sem, zz1] at hb; done) | (simp (disch := omega) only [go_sem, zz1] at hb; try omega) | try omega)
            | (refine Zl ?_; intro bn hnil; (try simp (disch := omega) only [go_sem, zz1] at hnil); dsimp only [putT, List.set_cons_succ, List.set_cons_zero])
          exact Zr
        · have := waiting_nn (ftake H).1
          exfalso; omega
  · have e0 : runOut o g us = ([], [], [], false) := if_neg hm
    rw [e0] at c1
    simp only [runV] at c1
    refine PCall_intro (c := Try.f11.body.getD .skip) Try.func11 rfl (by decide +kernel) Zf (W_start ?_)
    simp only [Try.f11, go_sem]
    repeat' first
      | refine Z0 ?_
      | refine Zx ?_
      | refine Zc c0 ?_
      | refine Zc c1 ?_
      | (refine Ze ?_; clear hK K)
      | refine W_reg fun K hK => ?_
      | refine W_drwR rfl mixed (by decide +kernel) fun K hK => ?_
      | refine W_drw mixed (by decide +kernel) fun K hK => ?_
      | (refine Zb ?_ ?_ <;> intro hb <;> first | (simp (disch := omega) only [go_sem] at hb; done) | (simp (disch := omega) only [go_sem] at hb; try omega) | try omega)
      | (refine Zl ?_; intro bn hnil; (try simp (disch := omega) only [go_sem] at hnil); dsimp only [putT, List.set_cons_succ, List.set_cons_zero])
    exact Zr

end Go.Proofs.Ytdgjelfeclgolaa
