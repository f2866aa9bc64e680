/-
  The reference's level: Same, Dispatch, Done; walked.
-/
import Derived.Test.YtdgjelfeclgolaaF37
namespace Go.Proofs.Ytdgjelfeclgolaa
open Go Go.AM
set_option maxHeartbeats 8000000
set_option maxRecDepth 8000
set_option linter.unusedSimpArgs false
set_option linter.unusedVariables false

theorem ssame_ok (s : TState) (hf : okF 1000 1000 s.fair) (hr : s.running.length ≤ 2000000) : PCall Try.prog 68 [.agg (Enc.enc s), .agg (Enc.enc s)] (· = .bool true) := by
  have c1 := fsame_ok s.fair s.fair hf hf
  have c2 := sameT_ok s.running s.running (by omega) (by omega)
  have e1 := decide_eq_true (rfl : s.level = s.level)
  have e2 := decide_eq_true (rfl : s.bound = s.bound)
  have e3 := decide_eq_true (rfl : s.demand = s.demand)
  simp only [decide_true] at c1 c2
  refine PCall_intro (c := Try.f68.body.getD .skip) Try.func68 rfl (by decide +kernel) Zf (W_start ?_)
  simp only [Try.f68, go_sem]
  have zz1 := e1
  have zz2 := e2
  have zz3 := e3
  repeat' first | refine Z3 ?_ | refine Zx ?_ | refine Zc c1 ?_ | refine Zc c2 ?_ | (refine Ze ?_; clear hK K) | refine W_reg fun K hK => ?_ | refine W_drwR rfl mixed (by decide +kernel) fun K hK => ?_ | refine W_drw mixed (by decide +kernel) fun K hK => ?_ | (refine Zb ?_ ?_ <;> intro hb <;> first | (simp (disch := omega) only [go_sem, zz1, zz2, zz3] at hb; done) | (simp (disch := omega) only [go_sem, zz1, zz2, zz3] at hb; try omega) | try omega) | (refine Zl ?_; intro bn hnil; (try simp (disch := omega) only [go_sem, zz1, zz2, zz3] at hnil); dsimp only [putT, List.set_cons_succ, List.set_cons_zero])
  all_goals exact Zr

/-- The seats that run, if the running ones lie in an object. -/
theorem sruns0_ok (s : TState) (hr : s.running.length ≤ 2000000) :
    HCall Try.prog 85 [stV s (.ref 0 s.running.length 0 s.running.length false s.running.length)] [(0, .arr 5 (rws s.running))] 1 (fun r h _ => r = .int .i64 (runsL s.running) ∧ h = [(0, .arr 5 (rws s.running))]) := by
  refine HCall_intro (c := Try.f85.body.getD .skip) Try.func85 rfl (by decide +kernel) (W_start ?_)
  simp only [Try.f85, go_sem]
  repeat' first | refine Z0 ?_ | refine Zx ?_ | (refine Ze ?_; clear hK K) | refine W_reg fun K hK => ?_ | refine W_drwR rfl mixed (by decide +kernel) fun K hK => ?_ | refine W_drw mixed (by decide +kernel) fun K hK => ?_ | (refine Zb ?_ ?_ <;> intro hb <;> first | (simp (disch := omega) only [go_sem] at hb; done) | (simp (disch := omega) only [go_sem] at hb; try omega) | try omega) | (refine Zl ?_; intro bn hnil; (try simp (disch := omega) only [go_sem] at hnil); dsimp only [putT, List.set_cons_succ, List.set_cons_zero])
  refine W_foldK (fun (i : Nat) => [none, none, none, some (.int .i64 (runsL (s.running.take i))), some (.int .i64 i), some .junk, some .junk, some .junk, some .junk, some .junk, some .junk, some .junk, some .junk, some .junk, some .junk, some .junk, some .junk, some .junk, some .junk, some .junk, some .junk, some .junk, some .junk, some .junk, some .junk, some .junk]) (fun i => i ≤ s.running.length) (fun i => s.running.length - i) 0 (by omega) (by simp only [List.take_zero, show runsL [] = 0 from rfl]; exact (by exact weak_mk wkD wkH wkN wkM (by omega))) ?_
  rintro i hi
  simp only [msk_none, msk_some, msk_nil]
  rcases Nat.lt_or_ge i s.running.length with h4 | h4
  · obtain ⟨x, hx⟩ := some_of_lt h4
    have b1 := runsL_take s.running i
    have e1 := runsL_snoc hx
    generalize runsL (s.running.take i) = A at *
    by_cases h1 : x.seats > 16
    · have e2 : sea x = 16 := by unfold sea; omega
      rw [e2] at e1
      have zz1 := rws_get hx
      repeat' first | refine Z1 ?_ | refine Zx ?_ | (refine Ze ?_; clear hK K) | refine W_reg fun K hK => ?_ | refine W_drwR rfl mixed (by decide +kernel) fun K hK => ?_ | refine W_drw mixed (by decide +kernel) fun K hK => ?_ | (refine Zb ?_ ?_ <;> intro hb <;> first | (simp (disch := omega) only [go_sem, zz1] at hb; done) | (simp (disch := omega) only [go_sem, zz1] at hb; try omega) | try omega) | (refine Zl ?_; intro bn hnil; (try simp (disch := omega) only [go_sem, zz1] at hnil); dsimp only [putT, List.set_cons_succ, List.set_cons_zero])
      all_goals exact L_next ⟨i + 1, by omega, by omega, by rw [e1]; exact (by exact weak_mk wkD wkH wkN wkM (by omega))⟩
    · by_cases h2 : x.seats > 0
      · have e2 : sea x = x.seats := by unfold sea; omega
        rw [e2] at e1
        have zz1 := rws_get hx
        repeat' first | refine Z1 ?_ | refine Zx ?_ | (refine Ze ?_; clear hK K) | refine W_reg fun K hK => ?_ | refine W_drwR rfl mixed (by decide +kernel) fun K hK => ?_ | refine W_drw mixed (by decide +kernel) fun K hK => ?_ | (refine Zb ?_ ?_ <;> intro hb <;> first | (simp (disch := omega) only [go_sem, zz1] at hb; done) | (simp (disch := omega) only [go_sem, zz1] at hb; try omega) | try omega) | (refine Zl ?_; intro bn hnil; (try simp (disch := omega) only [go_sem, zz1] at hnil); dsimp only [putT, List.set_cons_succ, List.set_cons_zero])
        all_goals exact L_next ⟨i + 1, by omega, by omega, by rw [e1]; exact (by exact weak_mk wkD wkH wkN wkM (by omega))⟩
      · have e2 : sea x = 0 := by unfold sea; omega
        rw [e2, Int.add_zero] at e1
        have zz1 := rws_get hx
        repeat' first | refine Z1 ?_ | refine Zx ?_ | (refine Ze ?_; clear hK K) | refine W_reg fun K hK => ?_ | refine W_drwR rfl mixed (by decide +kernel) fun K hK => ?_ | refine W_drw mixed (by decide +kernel) fun K hK => ?_ | (refine Zb ?_ ?_ <;> intro hb <;> first | (simp (disch := omega) only [go_sem, zz1] at hb; done) | (simp (disch := omega) only [go_sem, zz1] at hb; try omega) | try omega) | (refine Zl ?_; intro bn hnil; (try simp (disch := omega) only [go_sem, zz1] at hnil); dsimp only [putT, List.set_cons_succ, List.set_cons_zero])
        all_goals exact L_next ⟨i + 1, by omega, by omega, by rw [e1]; exact (by exact weak_mk wkD wkH wkN wkM (by omega))⟩
  · obtain rfl : i = s.running.length := by omega
    rw [List.take_length]
    repeat' first | refine Z0 ?_ | refine Zx ?_ | (refine Ze ?_; clear hK K) | refine W_reg fun K hK => ?_ | refine W_drwR rfl mixed (by decide +kernel) fun K hK => ?_ | refine W_drw mixed (by decide +kernel) fun K hK => ?_ | (refine Zb ?_ ?_ <;> intro hb <;> first | (simp (disch := omega) only [go_sem] at hb; done) | (simp (disch := omega) only [go_sem] at hb; try omega) | try omega) | (refine Zl ?_; intro bn hnil; (try simp (disch := omega) only [go_sem] at hnil); dsimp only [putT, List.set_cons_succ, List.set_cons_zero])
    exact Zrf

theorem srunsF_ok (s : TState) (N : Nat) (hN : s.running.length = N) (hr : N ≤ 2000000) (A : Nat) :
    FCall Try.prog 85 [stV s (.ref A N 0 N false N)] [(A, .arr 5 (rws s.running))] (.int .i64 (runsL s.running)) [(A, .arr 5 (rws s.running))] := by
  subst hN
  refine FCall.arr (sruns0_ok s hr) A (fun x hx => ?_) (.leaf _ (.fz _ (.int _ _))) rfl rfl
  simp only [List.mem_cons, List.not_mem_nil, or_false] at hx
  subst hx
  exact .agg _ (st_lf s _ _ (by simp))

/-- Does a width fit, if the running ones lie in an object. -/
theorem sfits0_ok (s : TState) (w : Int) (hr : s.running.length ≤ 2000000) (hl : s.limit ≤ 9223372036854775807) :
    HCall Try.prog 84 [stV s (.ref 0 s.running.length 0 s.running.length false s.running.length), .int .i64 w] [(0, .arr 5 (rws s.running))] 1
    (fun r h _ => r = .tuple [.int .i64 (fits s w).1, .bool (fits s w).2] ∧ h = [(0, .arr 5 (rws s.running))]) := by
  have c1 := rwid_ok w
  have c2 := srunsF_ok s _ rfl hr 0
  have b1 := runsL_le s.running
  have b2 := wid_le w
  unfold fits
  generalize wid w = W at *
  by_cases h1 : s.level.kind = 1
  · simp only [if_pos h1]
    refine HCall_intro (c := Try.f84.body.getD .skip) Try.func84 rfl (by decide +kernel) (W_start ?_)
    simp only [Try.f84, go_sem]
    repeat' first | refine Z0 ?_ | refine Zx ?_ | refine Zc c1 ?_ | refine Zfc c2 ?_ | (refine Ze ?_; clear hK K) | refine W_reg fun K hK => ?_ | refine W_drwF mixed (by decide +kernel) fun K hK => ?_ | (refine Zb ?_ ?_ <;> intro hb <;> first | (simp (disch := omega) only [go_sem] at hb; done) | (simp (disch := omega) only [go_sem] at hb; try omega) | try omega) | (refine Zl ?_; intro bn hnil; (try simp (disch := omega) only [go_sem] at hnil); dsimp only [putT, List.set_cons_succ, List.set_cons_zero])
    all_goals exact Zrf
  · simp only [if_neg h1]
    by_cases h2 : s.limit < 1
    · simp only [if_pos h2]
      refine HCall_intro (c := Try.f84.body.getD .skip) Try.func84 rfl (by decide +kernel) (W_start ?_)
      simp only [Try.f84, go_sem]
      repeat' first | refine Z0 ?_ | refine Zx ?_ | refine Zc c1 ?_ | refine Zfc c2 ?_ | (refine Ze ?_; clear hK K) | refine W_reg fun K hK => ?_ | refine W_drwF mixed (by decide +kernel) fun K hK => ?_ | (refine Zb ?_ ?_ <;> intro hb <;> first | (simp (disch := omega) only [go_sem] at hb; done) | (simp (disch := omega) only [go_sem] at hb; try omega) | try omega) | (refine Zl ?_; intro bn hnil; (try simp (disch := omega) only [go_sem] at hnil); dsimp only [putT, List.set_cons_succ, List.set_cons_zero])
      all_goals exact Zrf
    · simp only [if_neg h2]
      by_cases h3 : s.running.length = 0
      · simp only [if_pos h3]
        by_cases h5 : W > s.limit
        · rw [show min W s.limit = s.limit by omega]
          refine HCall_intro (c := Try.f84.body.getD .skip) Try.func84 rfl (by decide +kernel) (W_start ?_)
          simp only [Try.f84, go_sem]
          repeat' first | refine Z0 ?_ | refine Zx ?_ | refine Zc c1 ?_ | refine Zfc c2 ?_ | (refine Ze ?_; clear hK K) | refine W_reg fun K hK => ?_ | refine W_drwF mixed (by decide +kernel) fun K hK => ?_ | (refine Zb ?_ ?_ <;> intro hb <;> first | (simp (disch := omega) only [go_sem] at hb; done) | (simp (disch := omega) only [go_sem] at hb; try omega) | try omega) | (refine Zl ?_; intro bn hnil; (try simp (disch := omega) only [go_sem] at hnil); dsimp only [putT, List.set_cons_succ, List.set_cons_zero])
          all_goals exact Zrf
        · rw [show min W s.limit = W by omega]
          refine HCall_intro (c := Try.f84.body.getD .skip) Try.func84 rfl (by decide +kernel) (W_start ?_)
          simp only [Try.f84, go_sem]
          repeat' first | refine Z0 ?_ | refine Zx ?_ | refine Zc c1 ?_ | refine Zfc c2 ?_ | (refine Ze ?_; clear hK K) | refine W_reg fun K hK => ?_ | refine W_drwF mixed (by decide +kernel) fun K hK => ?_ | (refine Zb ?_ ?_ <;> intro hb <;> first | (simp (disch := omega) only [go_sem] at hb; done) | (simp (disch := omega) only [go_sem] at hb; try omega) | try omega) | (refine Zl ?_; intro bn hnil; (try simp (disch := omega) only [go_sem] at hnil); dsimp only [putT, List.set_cons_succ, List.set_cons_zero])
          all_goals exact Zrf
      · simp only [if_neg h3]
        generalize runsL s.running = R at *
        by_cases h4 : R ≤ s.limit - W
        · simp only [if_pos h4]
          have h4' : R + W ≤ s.limit := by omega
          refine HCall_intro (c := Try.f84.body.getD .skip) Try.func84 rfl (by decide +kernel) (W_start ?_)
          simp only [Try.f84, go_sem]
          repeat' first | refine Z0 ?_ | refine Zx ?_ | refine Zc c1 ?_ | refine Zfc c2 ?_ | (refine Ze ?_; clear hK K) | refine W_reg fun K hK => ?_ | refine W_drwF mixed (by decide +kernel) fun K hK => ?_ | (refine Zb ?_ ?_ <;> intro hb <;> first | (simp (disch := omega) only [go_sem] at hb; done) | (simp (disch := omega) only [go_sem] at hb; try omega) | try omega) | (refine Zl ?_; intro bn hnil; (try simp (disch := omega) only [go_sem] at hnil); dsimp only [putT, List.set_cons_succ, List.set_cons_zero])
          all_goals exact Zrf
        · simp only [if_neg h4]
          have h4' : ¬ R + W ≤ s.limit := by omega
          refine HCall_intro (c := Try.f84.body.getD .skip) Try.func84 rfl (by decide +kernel) (W_start ?_)
          simp only [Try.f84, go_sem]
          repeat' first | refine Z0 ?_ | refine Zx ?_ | refine Zc c1 ?_ | refine Zfc c2 ?_ | (refine Ze ?_; clear hK K) | refine W_reg fun K hK => ?_ | refine W_drwF mixed (by decide +kernel) fun K hK => ?_ | (refine Zb ?_ ?_ <;> intro hb <;> first | (simp (disch := omega) only [go_sem] at hb; done) | (simp (disch := omega) only [go_sem] at hb; try omega) | try omega) | (refine Zl ?_; intro bn hnil; (try simp (disch := omega) only [go_sem] at hnil); dsimp only [putT, List.set_cons_succ, List.set_cons_zero])
          all_goals exact Zrf

theorem sfitsF_ok (s : TState) (w : Int) (N : Nat) (hN : s.running.length = N) (hr : N ≤ 2000000) (hl : s.limit ≤ 9223372036854775807) (n : Int) (b : Bool) (hfit : fits s w = (n, b)) (A : Nat) :
    FCall Try.prog 84 [stV s (.ref A N 0 N false N), .int .i64 w] [(A, .arr 5 (rws s.running))] (.tuple [.int .i64 n, .bool b]) [(A, .arr 5 (rws s.running))] := by
  subst hN
  have h := sfits0_ok s w hr hl
  rw [hfit] at h
  refine FCall.arr h A (fun x hx => ?_) (.tuple _ fun c hc => ?_) rfl rfl
  · simp only [List.mem_cons, List.not_mem_nil, or_false] at hx
    rcases hx with rfl | rfl
    · exact .agg _ (st_lf s _ _ (by simp))
    · exact .leaf _ (.fz _ (.int _ _))
  · simp only [List.mem_cons, List.not_mem_nil, or_false] at hc
    rcases hc with rfl | rfl
    · exact .leaf _ (.fz _ (.int _ _))
    · exact .leaf _ (.fz _ (.bool _))

theorem sdispatch_ok (s : TState) (hf : okF 1000 1000 s.fair) (hr : s.running.length ≤ 900000) (hl : s.limit ≤ 9223372036854775807) : PCall Try.prog 75 [.agg (Enc.enc s)] (· = stL (ldispatch s)) := by
  have c0 := scopy_ok s hf (by omega)
  obtain ⟨R, hR⟩ : ∃ R, ldispatch s = R := ⟨_, rfl⟩
  rw [hR]
  unfold ldispatch at hR
  have htot := tot_le hf
  refine PCall_intro (c := Try.f75.body.getD .skip) Try.func75 rfl (by decide +kernel) Zf (W_start ?_)
  simp only [Try.f75, go_sem]
  repeat' first | refine Z0 ?_ | refine Zx ?_ | refine Zw c0 ?_ | (refine Ze ?_; clear hK K) | refine W_reg fun K hK => ?_ | refine W_drwR rfl mixed (by decide +kernel) fun K hK => ?_ | refine W_drw mixed (by decide +kernel) fun K hK => ?_ | (refine Zb ?_ ?_ <;> intro hb <;> first | (simp (disch := omega) only [go_sem] at hb; done) | (simp (disch := omega) only [go_sem] at hb; try omega) | try omega) | (refine Zl ?_; intro bn hnil; (try simp (disch := omega) only [go_sem] at hnil); dsimp only [putT, List.set_cons_succ, List.set_cons_zero])
  (apply W_unbornAt 5 5; (case ht => exact rfl); (case e => exact sT); (case hn => exact nT))
  refine W_foldM (fun (a : Nat × TState × List TTicket) => [none, none, none, some .junk, none, some (.ref 8 a.2.2.length 0 a.2.2.length false a.2.2.length), some .junk, some .junk, some .junk, some .junk, some .junk, some .junk, some .junk, none, none, some .junk, some .junk, some .junk, some .junk, some .junk, some .junk, some .junk, some .junk, some .junk, some .junk, some .junk, some .junk, some .junk, some .junk, some .junk, some .junk, some .junk, some .junk, some .junk, some .junk, some .junk, some .junk, some .junk, some .junk, some .junk, some .junk, some .junk, some .junk, some .junk, some .junk, some .junk, some .junk, some .junk, some .junk, some .junk, some .junk, some .junk, some .junk, some .junk, some .junk, some .junk, some .junk, some .junk, some .junk, some .junk, some .junk, some .junk, some .junk, some .junk, some .junk])
    (fun a => [(8, .arr 5 (rws a.2.2)), (5, .arr 23 [stR a.2.1 (.ref 4 a.2.1.running.length 0 a.2.1.running.length false a.2.1.running.length)]), (4, .arr 5 (rws a.2.1.running)), (1, .arr 23 [zrow])])
    (fun a => a.1 = tot a.2.1.fair ∧ okF 1000 1000 a.2.1.fair ∧ a.2.1.limit = s.limit ∧ a.2.1.running.length + a.1 ≤ 1900000 ∧ a.2.2.length + a.1 ≤ 1000000 ∧ ldispN a.1 a.2.1 a.2.2 = R) (fun a => a.1) (tot s.fair, s, []) ⟨rfl, hf, rfl, by simp only []; omega, by simp only [List.length_nil]; omega, hR⟩ (by exact weak_mk wkD wkH wkN wkM (by omega)) ?_
  clear hR c0
  rintro ⟨f, s', out⟩ ⟨k1, k2, k3, k4, k5, k6⟩
  simp only [] at k1 k2 k3 k4 k5 k6
  have c3 := rftake_ok s'.fair k2
  have c1 := rnext_ok s'.fair k2
  have b1 := okF_take k2
  have b2 := tot_take (f := s'.fair)
  have u1 : ∀ n t, fits s' (ftake s'.fair).2.1.width = (n, t) → (ftake s'.fair).2.2 = false ∨ t = false → ldispN f s' out = (s', out) := fun n t h1 h2 => by
    cases f with
    | zero => rfl
    | succ f =>
      rw [ldispN, if_neg]
      rintro ⟨q1, q2⟩
      rw [h1] at q2
      rcases h2 with h2 | h2
      · rw [h2] at q1; cases q1
      · rw [h2] at q2; cases q2
  have u2 : ∀ n, fits s' (ftake s'.fair).2.1.width = (n, true) → (ftake s'.fair).2.2 = true → 0 < f ∧ ldispN f s' out = ldispN (f - 1) (withFair (withRun s' (s'.running ++ [seated (ftake s'.fair).2.1 n])) (ftake s'.fair).1) (out ++ [seated (ftake s'.fair).2.1 n]) := fun n h1 h2 => by
    have := b2 h2
    obtain ⟨f, rfl⟩ : ∃ g, f = g + 1 := ⟨f - 1, by omega⟩
    refine ⟨Nat.succ_pos _, ?_⟩
    rw [ldispN, if_pos ⟨h2, by rw [h1]⟩, h1, Nat.add_sub_cancel]
  rcases next_cases s'.fair with ⟨h1, _⟩ | ⟨k, x, t, w, h1, hx, h3, h6, _⟩
  · rw [h1, show max (-1 : Int) 0 = 0 by rfl, show decide ((0 : Int) ≤ -1) = false by rfl] at c1
    have e := u1 _ _ rfl (.inl (by rw [ftake, if_pos (by omega)]))
    rw [k6] at e
    subst e
    clear c3 u1 u2 b1 b2
    simp only [msk_none, msk_some, msk_nil]
    repeat' first | refine Z0 ?_ | refine Zx ?_ | refine Zc c1 ?_ | (refine Ze ?_; clear hK K) | refine W_reg fun K hK => ?_ | refine W_drwR rfl mixed (by decide +kernel) fun K hK => ?_ | refine W_drw mixed (by decide +kernel) fun K hK => ?_ | (refine Zb ?_ ?_ <;> intro hb <;> first | (simp (disch := omega) only [go_sem] at hb; done) | (simp (disch := omega) only [go_sem] at hb; try omega) | try omega) | (refine Zl ?_; intro bn hnil; (try simp (disch := omega) only [go_sem] at hnil); dsimp only [putT, List.set_cons_succ, List.set_cons_zero])
    all_goals exact Zr
  · rw [h1, show max (k : Int) 0 = k by omega, show decide ((0 : Int) ≤ k) = true by simp] at c1
    have e2 : take x s'.fair.guess = (⟨add x.start (work t s'.fair.guess), w⟩, t, true) := by rw [take, h3]
    have g1 : (ftake s'.fair).2.2 = true ∧ (ftake s'.fair).2.1 = t := by
      rw [ftake, h1, if_neg (by omega), h6, e2]
      exact ⟨rfl, rfl⟩
    have h7 : x.wait[0]? = some t := by rw [h3]; rfl
    have h8 : 0 < x.wait.length := by rw [h3]; simp
    have h9 := (List.getElem?_eq_some_iff.1 hx).1
    generalize ftake s'.fair = T at *
    obtain ⟨F, t', b⟩ := T
    obtain ⟨g1, g2⟩ := g1
    simp only [] at g1 g2
    subst g1 g2
    simp only [fairV] at c3 b1
    dsimp only at b2 u1 u2
    obtain ⟨n, fb, hfit⟩ : ∃ n b, fits s' t'.width = (n, b) := ⟨_, _, rfl⟩
    have c2 := sfitsF_ok s' t'.width _ rfl (by omega) (by omega) n fb hfit 4
    simp only [msk_none, msk_some, msk_nil]
    cases fb with
    | false =>
      have e := u1 n false hfit (.inr rfl)
      rw [k6] at e
      subst e
      have zz1 := rws_get hx
      have zz2 := rws_get h7
      repeat' first | refine Z2 ?_ | refine Zx ?_ | refine Zc c1 ?_ | refine Zfc c2 ?_ | (refine Ze ?_; clear hK K) | refine W_reg fun K hK => ?_ | refine W_drwF mixed (by decide +kernel) fun K hK => ?_ | (refine Zb ?_ ?_ <;> intro hb <;> first | (simp (disch := omega) only [go_sem, zz1, zz2] at hb; done) | (simp (disch := omega) only [go_sem, zz1, zz2] at hb; try omega) | try omega) | (refine Zl ?_; intro bn hnil; (try simp (disch := omega) only [go_sem, zz1, zz2] at hnil); dsimp only [putT, List.set_cons_succ, List.set_cons_zero])
      all_goals exact Zr
    | true =>
      obtain ⟨e1, e2⟩ := u2 n hfit rfl
      rw [k6] at e2
      have r1 := rws_snoc out (seated t' n)
      have r0 := rws_snoc s'.running (seated t' n)
      have r2 : (s'.running ++ [seated t' n]).length = s'.running.length + 1 := by simp
      have r3 : (out ++ [seated t' n]).length = out.length + 1 := by simp
      have b3 := b2 rfl
      simp only [enc_TTicket, seated] at r1 r0
      have zz1 := rws_get hx
      have zz2 := rws_get h7
      have zz3 := r1
      have zz4 := r0
      repeat' first | refine Z4 ?_ | refine Zx ?_ | refine Zc c1 ?_ | refine Zc c3 ?_ | refine Zfc c2 ?_ | (refine Ze ?_; clear hK K) | refine W_reg fun K hK => ?_ | refine W_drwF mixed (by decide +kernel) fun K hK => ?_ | (refine Zb ?_ ?_ <;> intro hb <;> first | (simp (disch := omega) only [go_sem, zz1, zz2, zz3, zz4] at hb; done) | (simp (disch := omega) only [go_sem, zz1, zz2, zz3, zz4] at hb; try omega) | try omega) | (refine Zl ?_; intro bn hnil; (try simp (disch := omega) only [go_sem, zz1, zz2, zz3, zz4] at hnil); dsimp only [putT, List.set_cons_succ, List.set_cons_zero])
      all_goals exact L_next ⟨(f - 1, withFair (withRun s' (s'.running ++ [seated t' n])) F, out ++ [seated t' n]), by simp only []; omega, ⟨by simp only [withFair]; omega, b1, k3, by simp only [withFair, withRun, r2]; omega, by simp only [r3]; omega, e2.symm⟩, by simp only [withFair, withRun, r2, r3]; exact (by exact weak_mk wkD wkH wkN wkM (by omega))⟩

theorem sdone_ok (s : TState) (id : Int) (hf : okF 1000 1000 s.fair) (hr : s.running.length ≤ 2000000) : PCall Try.prog 77 [.agg (Enc.enc s), .int .i64 id] (· = stT (ldone s id)) := by
  have c0 := scopy_ok s hf hr
  refine PCall_intro (c := Try.f77.body.getD .skip) Try.func77 rfl (by decide +kernel) Zf (W_start ?_)
  simp only [Try.f77, go_sem]
  repeat' first | refine Z0 ?_ | refine Zx ?_ | (refine Ze ?_; clear hK K) | refine W_reg fun K hK => ?_ | refine W_drwR rfl mixed (by decide +kernel) fun K hK => ?_ | refine W_drw mixed (by decide +kernel) fun K hK => ?_ | (refine Zb ?_ ?_ <;> intro hb <;> first | (simp (disch := omega) only [go_sem] at hb; done) | (simp (disch := omega) only [go_sem] at hb; try omega) | try omega) | (refine Zl ?_; intro bn hnil; (try simp (disch := omega) only [go_sem] at hnil); dsimp only [putT, List.set_cons_succ, List.set_cons_zero])
  have hd1 : ∀ (i : Nat) (t : TTicket), s.running[i]? = some t → t.iD = id → (∀ k x, k < i → s.running[k]? = some x → (x.iD == id) = false) → ldone s id = (withRun s (s.running.eraseIdx i), t, 0) := fun i t h1 h2 h3 => by
    have e0 : idx (fun t : TTicket => t.iD == id) s.running = i := idx_at h1 (by simp [h2]) h3
    rw [ldone, e0, if_neg (by omega), Int.toNat_natCast, List.getD_eq_getElem?_getD, h1]
    rfl
  have hd2 : (∀ k x, k < s.running.length → s.running[k]? = some x → (x.iD == id) = false) → ldone s id = (zeroS, zeroT, 6) := fun h => by
    have e0 : idx (fun t : TTicket => t.iD == id) s.running = -1 := idx_none h
    rw [ldone, e0, if_pos (by omega)]
  generalize ldone s id = R at *
  refine W_foldK (fun (i : Nat) => [none, none, none, none, none, none, some .junk, some (.int .i64 i), some .junk, some .junk, some .junk, some .junk, some .junk, some .junk, some .junk, some .junk, some .junk, some .junk, some .junk, some .junk, some .junk, some .junk, some .junk, some .junk, some .junk, some .junk, some .junk, some .junk, some .junk, some .junk, some .junk, some .junk, some .junk, some .junk, some .junk, some .junk, some .junk, some .junk, some .junk, some .junk, some .junk, some .junk, some .junk, some .junk, some .junk, some .junk, some .junk, some .junk]) (fun i => i ≤ s.running.length ∧ ∀ k x, k < i → s.running[k]? = some x → (x.iD == id) = false) (fun i => s.running.length - i) 0 ⟨by omega, by omega⟩ (by exact weak_mk wkD wkH wkN wkM (by omega)) ?_
  rintro i ⟨hi, hno⟩
  simp only [msk_none, msk_some, msk_nil]
  rcases Nat.lt_or_ge i s.running.length with h4 | h4
  · obtain ⟨t, ht⟩ := some_of_lt h4
    by_cases h5 : t.iD = id
    · have := hd1 i t ht h5 hno
      subst this
      clear hd1 hd2
      have t1 : ((i : Int) + 1).toNat = i + 1 := by omega
      have r2 : List.take (s.running.length - (i + 1)) (List.drop (i + 1) (rws s.running)) = rws (s.running.drop (i + 1)) := by rw [rws_drop, rws_take, List.take_of_length_le (by simp)]
      have l2 : (s.running.drop (i + 1)).length = s.running.length - (i + 1) := by simp
      unfold withRun
      rw [show s.running.eraseIdx i = s.running.take i ++ s.running.drop (i + 1) from List.eraseIdx_eq_take_drop_succ s.running i]
      obtain ⟨B, hB⟩ : ∃ B, B = s.running.drop (i + 1) := ⟨_, rfl⟩
      rw [← hB] at r2 l2 ⊢
      rcases Nat.eq_zero_or_pos i with h0 | h0
      · subst h0
        simp only [List.take_zero, List.nil_append]
        simp only [Nat.zero_add] at r2 l2
        rcases Nat.eq_zero_or_pos (s.running.length - 1) with h6 | h6
        · obtain rfl : B = [] := List.length_eq_zero_iff.1 (by omega)
          have e5 : s.running.length = 1 := by omega
          have zz1 := rws_get ht
          have zz2 := e5
          repeat' first | refine Z2 ?_ | refine Zx ?_ | refine Zw c0 ?_ | (refine Ze ?_; clear hK K) | refine W_reg fun K hK => ?_ | refine W_drwR rfl mixed (by decide +kernel) fun K hK => ?_ | refine W_drw mixed (by decide +kernel) fun K hK => ?_ | (refine Zb ?_ ?_ <;> intro hb <;> first | (simp (disch := omega) only [go_sem, zz1, zz2] at hb; done) | (simp (disch := omega) only [go_sem, zz1, zz2] at hb; try omega) | try omega) | (refine Zl ?_; intro bn hnil; (try simp (disch := omega) only [go_sem, zz1, zz2] at hnil); dsimp only [putT, List.set_cons_succ, List.set_cons_zero])
          all_goals exact Zr
        · have zz1 := rws_get ht
          have zz2 := r2
          have zz3 := l2
          have zz4 := t1
          repeat' first | refine Z4 ?_ | refine Zx ?_ | refine Zw c0 ?_ | (refine Ze ?_; clear hK K) | refine W_reg fun K hK => ?_ | refine W_drwR rfl mixed (by decide +kernel) fun K hK => ?_ | refine W_drw mixed (by decide +kernel) fun K hK => ?_ | (refine Zb ?_ ?_ <;> intro hb <;> first | (simp (disch := omega) only [go_sem, zz1, zz2, zz3, zz4] at hb; done) | (simp (disch := omega) only [go_sem, zz1, zz2, zz3, zz4] at hb; try omega) | try omega) | (refine Zl ?_; intro bn hnil; (try simp (disch := omega) only [go_sem, zz1, zz2, zz3, zz4] at hnil); dsimp only [putT, List.set_cons_succ, List.set_cons_zero])
          all_goals exact Zr
      · have r1 : List.take i (rws s.running) = rws (s.running.take i) := by rw [rws_take]
        have l1 : (s.running.take i).length = i := by simp; omega
        obtain ⟨A, hA⟩ : ∃ A, A = s.running.take i := ⟨_, rfl⟩
        rw [← hA] at r1 l1 ⊢
        have r3 : rws A ++ rws B = rws (A ++ B) := by rw [rws_append]
        have zz1 := rws_get ht
        have zz2 := r1
        have zz3 := r2
        have zz4 := r3
        have zz5 := t1
        have zz6 := l1
        have zz7 := l2
        repeat' first | refine Z7 ?_ | refine Zx ?_ | refine Zw c0 ?_ | (refine Ze ?_; clear hK K) | refine W_reg fun K hK => ?_ | refine W_drwR rfl mixed (by decide +kernel) fun K hK => ?_ | refine W_drw mixed (by decide +kernel) fun K hK => ?_ | (refine Zb ?_ ?_ <;> intro hb <;> first | (simp (disch := omega) only [go_sem, zz1, zz2, zz3, zz4, zz5, zz6, zz7] at hb; done) | (simp (disch := omega) only [go_sem, zz1, zz2, zz3, zz4, zz5, zz6, zz7] at hb; try omega) | try omega) | (refine Zl ?_; intro bn hnil; (try simp (disch := omega) only [go_sem, zz1, zz2, zz3, zz4, zz5, zz6, zz7] at hnil); dsimp only [putT, List.set_cons_succ, List.set_cons_zero])
        all_goals exact Zr
    · have zz1 := rws_get ht
      repeat' first | refine Z1 ?_ | refine Zx ?_ | (refine Ze ?_; clear hK K) | refine W_reg fun K hK => ?_ | refine W_drwR rfl mixed (by decide +kernel) fun K hK => ?_ | refine W_drw mixed (by decide +kernel) fun K hK => ?_ | (refine Zb ?_ ?_ <;> intro hb <;> first | (simp (disch := omega) only [go_sem, zz1] at hb; done) | (simp (disch := omega) only [go_sem, zz1] at hb; try omega) | try omega) | (refine Zl ?_; intro bn hnil; (try simp (disch := omega) only [go_sem, zz1] at hnil); dsimp only [putT, List.set_cons_succ, List.set_cons_zero])
      all_goals exact L_next ⟨i + 1, by omega, ⟨by omega, fun k x hk hx => by
        rcases Nat.lt_or_ge k i with q | q
        · exact hno k x q hx
        · obtain rfl : k = i := by omega
          rw [ht] at hx
          injection hx with hx
          subst hx
          simpa using h5⟩, (by exact weak_mk wkD wkH wkN wkM (by omega))⟩
  · obtain rfl : i = s.running.length := by omega
    have := hd2 hno
    subst this
    repeat' first | refine Z0 ?_ | refine Zx ?_ | (refine Ze ?_; clear hK K) | refine W_reg fun K hK => ?_ | refine W_drwR rfl mixed (by decide +kernel) fun K hK => ?_ | refine W_drw mixed (by decide +kernel) fun K hK => ?_ | (refine Zb ?_ ?_ <;> intro hb <;> first | (simp (disch := omega) only [go_sem] at hb; done) | (simp (disch := omega) only [go_sem] at hb; try omega) | try omega) | (refine Zl ?_; intro bn hnil; (try simp (disch := omega) only [go_sem] at hnil); dsimp only [putT, List.set_cons_succ, List.set_cons_zero])
    all_goals exact Zr

end Go.Proofs.Ytdgjelfeclgolaa
