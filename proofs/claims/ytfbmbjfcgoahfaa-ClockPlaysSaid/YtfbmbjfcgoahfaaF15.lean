/-
  The reference's clock: Advance; walked.
-/
import Derived.Test.YtfbmbjfcgoahfaaF14
import Derived.Test.YtfbmbjfcgoahfaaAMG
namespace Go.Proofs.Ytfbmbjfcgoahfaa
open Go Go.AM
set_option maxHeartbeats 8000000
set_option maxRecDepth 8000
set_option linter.unusedSimpArgs false
set_option linter.unusedVariables false

theorem radv_bad (now : Int) (L : List TDue) (to : Int) (h : to < now ∨ to > 1099511627776) : HCall Try.prog 32 [.ptr 0 1 0 0, .int .i64 to] (robs 0 1 now L) 2 (fun q h _ => q = .tuple [.sl [] (some 0), .int .i64 1] ∧ h = robs 0 1 now L) := by
  refine HCall_intro (c := Try.f32.body.getD .skip) Try.func32 rfl (by decide +kernel) (W_start ?_)
  simp only [Try.f32, go_sem]
  repeat' first
    | refine Z0 ?_
    | refine Zx ?_
    | (refine Ze ?_; clear hK K)
    | refine W_reg fun K hK => ?_
    | refine W_drwR rfl mixed (by decide +kernel) fun K hK => ?_
    | refine W_drw mixed (by decide +kernel) fun K hK => ?_
    | (refine Zb ?_ ?_ <;> intro hb <;> first | (simp (disch := omega) only [go_sem] at hb; done) | (simp (disch := omega) only [go_sem] at hb; try omega) | try omega)
    | (refine Zl ?_; intro bn hnil; (try simp (disch := omega) only [go_sem] at hnil); dsimp only [putT, List.set_cons_succ, List.set_cons_zero])
  all_goals exact Zrf

def isDue (L : List TDue) (to : Int) : Prop := 0 ≤ fstI L L.length ∧ (dat L (fstI L L.length).toNat).at_ ≤ to

theorem radv_none (now : Int) (L : List TDue) (to : Int) (hl : L.length ≤ 5000) (h : ¬ (to < now ∨ to > 1099511627776)) (h0 : ¬ isDue L to) : HCall Try.prog 32 [.ptr 0 1 0 0, .int .i64 to] (robs 0 1 now L) 2 (fun q h _ => q = .tuple [.sl [] (some 0), .int .i64 0] ∧ h = robs 0 1 to L) := by
  have c1 := first_R to L hl (D := 0) (a := 1) (by decide)
  unfold isDue at h0
  refine HCall_intro (c := Try.f32.body.getD .skip) Try.func32 rfl (by decide +kernel) (W_start ?_)
  simp only [Try.f32, go_sem]
  repeat' first
    | refine Z0 ?_
    | refine Zx ?_
    | refine Zfc c1 ?_
    | (refine Ze ?_; clear hK K)
    | refine W_reg fun K hK => ?_
    | refine W_drwR rfl mixed (by decide +kernel) fun K hK => ?_
    | refine W_drw mixed (by decide +kernel) fun K hK => ?_
    | (refine Zb ?_ ?_ <;> intro hb <;> first | (simp (disch := omega) only [go_sem] at hb; done) | (simp (disch := omega) only [go_sem] at hb; try omega) | try omega)
    | (refine Zl ?_; intro bn hnil; (try simp (disch := omega) only [go_sem] at hnil); dsimp only [putT, List.set_cons_succ, List.set_cons_zero])
  refine W_foldK (fun (i : Nat) => [none, none, none, none, none, none, some (.sl [] (some 0)), some (.int .i64 (fstI L L.length)), none, none, none, none, none, none, none, none, none, none, none, none, none, none, none, none, some .junk, some .junk, some .junk, some .junk, some .junk, some .junk, some .junk, some .junk, some .junk, some .junk, some .junk, some .junk, some .junk, some .junk, some .junk, some .junk, some .junk, some .junk, some .junk, some .junk, some .junk, some .junk, some .junk, some .junk, some .junk, some .junk, some .junk, some .junk, some .junk, some .junk, some .junk, some .junk, some .junk, some .junk, some .junk]) (fun i => True) (fun i => i) 0 trivial (by exact weak_mk wkD wkH wkN wkM (by omega)) ?_
  rintro i _
  simp only [msk_none, msk_some, msk_nil]
  rcases fstI_law L L.length (Nat.le_refl _) with ⟨e0, e1⟩ | ⟨b, e1, e2, e3⟩
  · rw [e1]
    repeat' first
      | refine Z0 ?_
      | refine Zx ?_
      | (refine Ze ?_; clear hK K)
      | refine W_reg fun K hK => ?_
      | refine W_drwR rfl mixed (by decide +kernel) fun K hK => ?_
      | refine W_drw mixed (by decide +kernel) fun K hK => ?_
      | (refine Zb ?_ ?_ <;> intro hb <;> first | (simp (disch := omega) only [go_sem] at hb; done) | (simp (disch := omega) only [go_sem] at hb; try omega) | try omega)
      | (refine Zl ?_; intro bn hnil; (try simp (disch := omega) only [go_sem] at hnil); dsimp only [putT, List.set_cons_succ, List.set_cons_zero])
    exact Zrf
  · have x1 := dat_get e2
    rw [e1] at h0
    simp only [Int.toNat_natCast] at h0
    have zz1 := e1
    have zz2 := rws_get x1
    repeat' first
      | refine Z2 ?_
      | refine Zx ?_
      | (refine Ze ?_; clear hK K)
      | refine W_reg fun K hK => ?_
      | refine W_drwR rfl mixed (by decide +kernel) fun K hK => ?_
      | refine W_drw mixed (by decide +kernel) fun K hK => ?_
      | (refine Zb ?_ ?_ <;> intro hb <;> first | (simp (disch := omega) only [go_sem, zz1, zz2] at hb; done) | (simp (disch := omega) only [go_sem, zz1, zz2] at hb; try omega) | try omega)
      | (refine Zl ?_; intro bn hnil; (try simp (disch := omega) only [go_sem, zz1, zz2] at hnil); dsimp only [putT, List.set_cons_succ, List.set_cons_zero])
    exact Zrf

theorem radv_some (now : Int) (L : List TDue) (to : Int) (hl : L.length ≤ 5000) (h : ¬ (to < now ∨ to > 1099511627776)) (h0 : isDue L to) :
    HCall Try.prog 32 [.ptr 0 1 0 0, .int .i64 to] (robs 0 1 now L) 2 (fun q h _ => q = advV ((advR L.length L to).2, 0) ∧ h = [(5, .arr 2 (rws (advR L.length L to).1)), (1, .arr 2 (rws L)), (0, .arr 2 [rrow 5 to (advR L.length L to).1.length])]) := by
  have c1 := first_R to L hl (D := 0) (a := 1) (by decide)
  obtain ⟨A, hA⟩ : ∃ A, advR L.length L to = A := ⟨_, rfl⟩
  rw [hA]
  refine HCall_intro (c := Try.f32.body.getD .skip) Try.func32 rfl (by decide +kernel) (W_start ?_)
  simp only [Try.f32, go_sem]
  repeat' first
    | refine Z0 ?_
    | refine Zx ?_
    | refine Zfc c1 ?_
    | (refine Ze ?_; clear hK K)
    | refine W_reg fun K hK => ?_
    | refine W_drwR rfl mixed (by decide +kernel) fun K hK => ?_
    | refine W_drw mixed (by decide +kernel) fun K hK => ?_
    | (refine Zb ?_ ?_ <;> intro hb <;> first | (simp (disch := omega) only [go_sem] at hb; done) | (simp (disch := omega) only [go_sem] at hb; try omega) | try omega)
    | (refine Zl ?_; intro bn hnil; (try simp (disch := omega) only [go_sem] at hnil); dsimp only [putT, List.set_cons_succ, List.set_cons_zero])
  (apply W_unbornAt 6 2; (case ht => exact rfl); (case e => exact sT); (case hn => exact nT))
  refine W_foldMC (fun (a : Bool × Nat × List TDue × List TDue) => [none, none, none, none, none, none, some (.ref 23 a.2.2.2.length 0 a.2.2.2.length false a.2.2.2.length), some (.int .i64 (fstI a.2.2.1 a.2.2.1.length)), none, none, none, none, none, none, none, none, none, none, none, none, none, none, none, none, some .junk, some .junk, some .junk, some .junk, some .junk, some .junk, some .junk, some .junk, some .junk, some .junk, some .junk, some .junk, some .junk, some .junk, some .junk, some .junk, some .junk, some .junk, some .junk, some .junk, some .junk, some .junk, some .junk, some .junk, some .junk, some .junk, some .junk, some .junk, some .junk, some .junk, some .junk, some .junk, some .junk, some .junk, some .junk])
    (fun a => if a.1 = true then [(23, .arr 2 (rws a.2.2.2)), (1, .arr 2 (rws L)), (0, .arr 2 [rrow 1 to a.2.2.1.length])] else [(5, .arr 2 (rws a.2.2.1)), (23, .arr 2 (rws a.2.2.2)), (1, .arr 2 (rws L)), (0, .arr 2 [rrow 5 to a.2.2.1.length])])
    (fun a => (a.1 = true → a.2.2.1 = L ∧ a.2.2.2 = []) ∧ (advR a.2.1 a.2.2.1 to).1 = A.1 ∧ a.2.2.2 ++ (advR a.2.1 a.2.2.1 to).2 = A.2 ∧ a.2.2.1.length ≤ a.2.1 ∧ a.2.2.2.length + a.2.2.1.length ≤ 5000) (fun a => a.2.1)
    (true, L.length, L, []) ⟨fun _ => ⟨rfl, rfl⟩, by rw [hA], by rw [hA]; rfl, Nat.le_refl _, by simpa using hl⟩ (by exact Can.ofWeak (by exact weak_mk wkD wkH wkN wkM (by omega))) ?_
  rintro ⟨tag, f, M, out⟩ ⟨k1, k2, k3, k4, k5⟩
  simp only [] at k1 k2 k3 k4 k5
  simp only [msk_none, msk_some, msk_nil]
  by_cases hd : isDue M to
  · have hd2 := hd
    unfold isDue at hd
    rcases fstI_law M M.length (Nat.le_refl _) with ⟨e0, e1⟩ | ⟨b, e1, e2, e3⟩
    · omega
    obtain ⟨f, rfl⟩ : ∃ f', f = f' + 1 := ⟨f - 1, by omega⟩
    unfold isDue at hd2
    rw [advR, if_pos hd2] at k2 k3
    rw [e1] at hd k2 k3
    simp only [Int.toNat_natCast] at hd k2 k3
    obtain ⟨x, hx⟩ : ∃ x, dat M b = x := ⟨_, rfl⟩
    have x1 := dat_get e2
    rw [hx] at x1 hd k3
    have hel : (M.eraseIdx b).length = M.length - 1 := by rw [List.length_eraseIdx, if_pos e2]
    have r1 := rws_snoc out x
    simp only [enc_TDue] at r1
    have c3 := first_R to (M.eraseIdx b) (by omega) (D := 0) (a := 55) (by decide)
    simp only [robs, hel] at c3
    cases tag with
    | true =>
      obtain ⟨rfl, rfl⟩ := k1 rfl
      have c2 := without_M M b e2 hl 1
      rw [← e1] at c2
      have zz1 := e1
      have zz2 := rws_get x1
      have zz3 := r1
      repeat' first
        | refine Z3 ?_
        | refine Zx ?_
        | refine Zfc c1 ?_
        | refine Zfc c3 ?_
        | refine Zfn c2 ?_
        | (refine Ze ?_; clear hK K)
        | refine W_reg fun K hK => ?_
        | refine W_drwR rfl mixed (by decide +kernel) fun K hK => ?_
        | refine W_drw mixed (by decide +kernel) fun K hK => ?_
        | (refine Zb ?_ ?_ <;> intro hb <;> first | (simp (disch := omega) only [go_sem, zz1, zz2, zz3] at hb; done) | (simp (disch := omega) only [go_sem, zz1, zz2, zz3] at hb; try omega) | try omega)
        | (refine Zl ?_; intro bn hnil; (try simp (disch := omega) only [go_sem, zz1, zz2, zz3] at hnil); dsimp only [putT, List.set_cons_succ, List.set_cons_zero])
      exact L_next ⟨(false, f, M.eraseIdx b, ([] : List TDue) ++ [x]), by simp, ⟨fun h => (nomatch h), k2, by simp only []; rw [List.append_assoc]; exact k3, by simp only []; omega, by simp only [List.length_append, List.length_cons, List.length_nil, hel] at k5 ⊢; omega⟩,
        Can.renW (hp := [(55, .arr 2 (rws (M.eraseIdx b))), (23, .arr 2 (rws (([] : List TDue) ++ [x]))), (1, .arr 2 (rws M)), (0, .arr 2 [rrow 55 to (M.eraseIdx b).length])]) (nx := 60) (fun i => if i = 55 then 5 else i) (by rw [hel]; exact (by exact weak_mk wkD wkH wkN wkM (by omega))) (by
          intro i j hi hj e
          simp only [List.map_cons, List.map_nil, List.mem_cons, List.not_mem_nil, or_false] at hi hj
          rcases hi with rfl | rfl | rfl | rfl <;> rcases hj with rfl | rfl | rfl | rfl <;> first | rfl | (simp at e)) lfS (by
          intro e he
          simp only [List.mem_cons, List.not_mem_nil, or_false] at he
          rcases he with rfl | rfl | rfl | rfl
          · simp [lfO_rws]
          · simp [lfO_rws]
          · simp [lfO_rws]
          · simp [lfO_row, lf_ref, lf_int]) (by simp) (by simp) (by omega) reS (by simp only [renH, renO, ren_rws, ren0, rrow, List.map_cons, List.map_nil]; rfl)⟩
    | false =>
      have c2 := without_M M b e2 (by omega) 5
      rw [← e1] at c2
      have zz1 := e1
      have zz2 := rws_get x1
      have zz3 := r1
      repeat' first
        | refine Z3 ?_
        | refine Zx ?_
        | refine Zfc c3 ?_
        | refine Zfn c2 ?_
        | (refine Ze ?_; clear hK K)
        | refine W_reg fun K hK => ?_
        | refine W_drwR rfl mixed (by decide +kernel) fun K hK => ?_
        | refine W_drw mixed (by decide +kernel) fun K hK => ?_
        | (refine Zb ?_ ?_ <;> intro hb <;> first | (simp (disch := omega) only [go_sem, zz1, zz2, zz3] at hb; done) | (simp (disch := omega) only [go_sem, zz1, zz2, zz3] at hb; try omega) | try omega)
        | (refine Zl ?_; intro bn hnil; (try simp (disch := omega) only [go_sem, zz1, zz2, zz3] at hnil); dsimp only [putT, List.set_cons_succ, List.set_cons_zero])
      exact L_next ⟨(false, f, M.eraseIdx b, out ++ [x]), by simp, ⟨fun h => (nomatch h), k2, by simp only []; rw [List.append_assoc]; exact k3, by simp only []; omega, by simp only [List.length_append, List.length_cons, List.length_nil, hel] at k5 ⊢; omega⟩,
        Can.renW (hp := [(55, .arr 2 (rws (M.eraseIdx b))), (23, .arr 2 (rws (out ++ [x]))), (1, .arr 2 (rws L)), (0, .arr 2 [rrow 55 to (M.eraseIdx b).length])]) (nx := 60) (fun i => if i = 55 then 5 else i) (by rw [hel]; exact (by exact weak_mk wkD wkH wkN wkM (by omega))) (by
          intro i j hi hj e
          simp only [List.map_cons, List.map_nil, List.mem_cons, List.not_mem_nil, or_false] at hi hj
          rcases hi with rfl | rfl | rfl | rfl <;> rcases hj with rfl | rfl | rfl | rfl <;> first | rfl | (simp at e)) lfS (by
          intro e he
          simp only [List.mem_cons, List.not_mem_nil, or_false] at he
          rcases he with rfl | rfl | rfl | rfl
          · simp [lfO_rws]
          · simp [lfO_rws]
          · simp [lfO_rws]
          · simp [lfO_row, lf_ref, lf_int]) (by simp) (by simp) (by omega) reS (by simp only [renH, renO, ren_rws, ren0, rrow, List.map_cons, List.map_nil]; rfl)⟩
  · have h7 : (advR f M to).1 = M ∧ (advR f M to).2 = [] := by
      cases f with
      | zero => exact ⟨rfl, rfl⟩
      | succ f => unfold isDue at hd; rw [advR, if_neg hd]; exact ⟨rfl, rfl⟩
    rw [h7.1] at k2
    rw [h7.2, List.append_nil] at k3
    cases tag with
    | true =>
      obtain ⟨rfl, rfl⟩ := k1 rfl
      exact absurd h0 hd
    | false =>
      obtain ⟨A1, A2⟩ := A
      simp only [] at k2 k3
      subst k2 k3
      simp only [Bool.false_eq_true, if_false]
      (apply W_frzI 23 (out) (out.length); (case hl => simp only [go_sem]; exact rfl); (case e => first | rfl | (simp; done) | (simp [rws, Enc.enc]; done)); (case hn => first | rfl | (simp; done) | omega); (case e1 => exact subT); (case e2 => exact subU))
      unfold isDue at hd
      rcases fstI_law M M.length (Nat.le_refl _) with ⟨e0, e1⟩ | ⟨b, e1, e2, e3⟩
      · have zz1 := e1
        repeat' first
          | refine Z1 ?_
          | refine Zx ?_
          | (refine Ze ?_; clear hK K)
          | refine W_reg fun K hK => ?_
          | refine W_drwR rfl mixed (by decide +kernel) fun K hK => ?_
          | refine W_drw mixed (by decide +kernel) fun K hK => ?_
          | (refine Zb ?_ ?_ <;> intro hb <;> first | (simp (disch := omega) only [go_sem, zz1] at hb; done) | (simp (disch := omega) only [go_sem, zz1] at hb; try omega) | try omega)
          | (refine Zl ?_; intro bn hnil; (try simp (disch := omega) only [go_sem, zz1] at hnil); dsimp only [putT, List.set_cons_succ, List.set_cons_zero])
        exact Zrf
      · have x1 := dat_get e2
        rw [e1] at hd
        simp only [Int.toNat_natCast] at hd
        have zz1 := e1
        have zz2 := rws_get x1
        repeat' first
          | refine Z2 ?_
          | refine Zx ?_
          | (refine Ze ?_; clear hK K)
          | refine W_reg fun K hK => ?_
          | refine W_drwR rfl mixed (by decide +kernel) fun K hK => ?_
          | refine W_drw mixed (by decide +kernel) fun K hK => ?_
          | (refine Zb ?_ ?_ <;> intro hb <;> first | (simp (disch := omega) only [go_sem, zz1, zz2] at hb; done) | (simp (disch := omega) only [go_sem, zz1, zz2] at hb; try omega) | try omega)
          | (refine Zl ?_; intro bn hnil; (try simp (disch := omega) only [go_sem, zz1, zz2] at hnil); dsimp only [putT, List.set_cons_succ, List.set_cons_zero])
        exact Zrf

end Go.Proofs.Ytfbmbjfcgoahfaa
