/-
  The reference's clock: Cancel, Advance, Next; against the list in order; walked.
-/
import Derived.Test.YtfbmbjfcgoahfaaF13
namespace Go.Proofs.Ytfbmbjfcgoahfaa
open Go Go.AM
set_option maxHeartbeats 8000000
set_option maxRecDepth 8000
set_option linter.unusedSimpArgs false
set_option linter.unusedVariables false

theorem without0 (L : List TDue) (b : Nat) (hb : b < L.length) (hl : L.length ≤ 5000) : HCall Try.prog 46 [.ref 0 L.length 0 L.length false L.length, .int .i64 b] [(0, .arr 2 (rws L))] 1
    (fun r h _ => r = .ref 4 (L.length - 1) 0 (L.length - 1) false (L.length - 1) ∧ h = [(4, .arr 2 (rws (L.eraseIdx b))), (0, .arr 2 (rws L))]) := by
  have hel : (L.eraseIdx b).length = L.length - 1 := by rw [List.length_eraseIdx, if_pos hb]
  rw [← hel]
  refine HCall_intro (c := Try.f46.body.getD .skip) Try.func46 rfl (by decide +kernel) (W_start ?_)
  simp only [Try.f46, go_sem]
  repeat' first
    | refine Z0 ?_
    | refine Zx ?_
    | (refine Ze ?_; clear hK K)
    | refine W_reg fun K hK => ?_
    | refine W_drwR rfl mixed (by decide +kernel) fun K hK => ?_
    | refine W_drw mixed (by decide +kernel) fun K hK => ?_
    | (refine Zb ?_ ?_ <;> intro hb <;> first | (simp (disch := omega) only [go_sem] at hb; done) | (simp (disch := omega) only [go_sem] at hb; try omega) | try omega)
    | (refine Zl ?_; intro bn hnil; (try simp (disch := omega) only [go_sem] at hnil); dsimp only [putT, List.set_cons_succ, List.set_cons_zero])
  (apply W_unbornAt 5 2; (case ht => exact rfl); (case e => exact sT); (case hn => exact nT))
  refine W_foldA (fun id (a : Nat × List TDue) => [none, none, none, none, none, some (.ref id a.2.length 0 a.2.length false a.2.length), some (.int .i64 a.1), some .junk, some .junk, some .junk, some .junk, some .junk, some .junk, some .junk, some .junk, some .junk, some .junk, some .junk, some .junk, some .junk, some .junk, some .junk, some .junk]) (fun a => rws a.2) (fun a => a.1 ≤ L.length ∧ a.2 = (L.take a.1).eraseIdx b ∧ a.2.length ≤ a.1) (fun a => L.length - a.1) (0, []) ⟨by omega, by simp, by simp⟩ (by exact weak_mk wkD wkH wkN wkM (by omega)) ?_
  rintro ⟨i, out⟩ ⟨h1, h2, h3⟩
  simp only [] at h1 h2 h3
  simp only [msk_none, msk_some, msk_nil]
  by_cases hi : i < L.length
  · obtain ⟨x, hx⟩ := some_of_lt hi
    have ht : (L.take i).length = i := by simp; omega
    by_cases e : i = b
    · have h5 : (L.take (i + 1)).eraseIdx b = out := by
        rw [take_snoc hx, List.eraseIdx_append_of_length_le (by omega), ht, e, h2, e]
        rw [List.eraseIdx_of_length_le (l := L.take b) (by rw [List.length_take]; omega)]
        simp
      repeat' first
        | refine Z0 ?_
        | refine Zx ?_
        | (refine Ze ?_; clear hK K)
        | refine W_reg fun K hK => ?_
        | refine W_drwR rfl mixed (by decide +kernel) fun K hK => ?_
        | refine W_drw mixed (by decide +kernel) fun K hK => ?_
        | (refine Zb ?_ ?_ <;> intro hb <;> first | (simp (disch := omega) only [go_sem] at hb; done) | (simp (disch := omega) only [go_sem] at hb; try omega) | try omega)
        | (refine Zl ?_; intro bn hnil; (try simp (disch := omega) only [go_sem] at hnil); dsimp only [putT, List.set_cons_succ, List.set_cons_zero])
      exact L_next ⟨(i + 1, out), by simp; omega, ⟨by simp; omega, h5.symm, by simp; omega⟩, (by exact weak_mk wkD wkH wkN wkM (by omega))⟩
    · have h5 : (L.take (i + 1)).eraseIdx b = out ++ [x] := by
        rw [take_snoc hx, h2]
        rcases Nat.lt_or_ge b i with h6 | h6
        · rw [List.eraseIdx_append_of_lt_length (by omega)]
        · rw [List.eraseIdx_of_length_le (by simp; omega), List.eraseIdx_of_length_le (by omega)]
      have r1 := rws_snoc out x
      simp only [enc_TDue] at r1
      have zz1 := rws_get hx
      have zz2 := r1
      repeat' first
        | refine Z2 ?_
        | refine Zx ?_
        | (refine Ze ?_; clear hK K)
        | refine W_reg fun K hK => ?_
        | refine W_drwR rfl mixed (by decide +kernel) fun K hK => ?_
        | refine W_drw mixed (by decide +kernel) fun K hK => ?_
        | (refine Zb ?_ ?_ <;> intro hb <;> first | (simp (disch := omega) only [go_sem, zz1, zz2] at hb; done) | (simp (disch := omega) only [go_sem, zz1, zz2] at hb; try omega) | try omega)
        | (refine Zl ?_; intro bn hnil; (try simp (disch := omega) only [go_sem, zz1, zz2] at hnil); dsimp only [putT, List.set_cons_succ, List.set_cons_zero])
      exact L_next ⟨(i + 1, out ++ [x]), by simp; omega, ⟨by simp; omega, h5.symm, by simp; omega⟩, (by exact weak_mk wkD wkH wkN wkM (by omega))⟩
  · obtain rfl : i = L.length := by omega
    rw [List.take_length] at h2
    subst h2
    repeat' first
      | refine Z0 ?_
      | refine Zx ?_
      | (refine Ze ?_; clear hK K)
      | refine W_reg fun K hK => ?_
      | refine W_drwR rfl mixed (by decide +kernel) fun K hK => ?_
      | refine W_drw mixed (by decide +kernel) fun K hK => ?_
      | (refine Zb ?_ ?_ <;> intro hb <;> first | (simp (disch := omega) only [go_sem] at hb; done) | (simp (disch := omega) only [go_sem] at hb; try omega) | try omega)
      | (refine Zl ?_; intro bn hnil; (try simp (disch := omega) only [go_sem] at hnil); dsimp only [putT, List.set_cons_succ, List.set_cons_zero])
    exact Zrf

theorem without_M (L : List TDue) (b : Nat) (hb : b < L.length) (hl : L.length ≤ 5000) (a : Nat) : FNCall Try.prog 46 [.ref a L.length 0 L.length false L.length, .int .i64 b] [(a, .arr 2 (rws L))]
    (fun j => .ref j (L.length - 1) 0 (L.length - 1) false (L.length - 1)) (fun _ => [(a, .arr 2 (rws L))]) (fun _ => .arr 2 (rws (L.eraseIdx b))) := by
  refine FNCall.of (f := fun _ => a) (without0 L b hb hl) rfl (by simp) (fun e he => ?_) (fun i j hi hj _ => ?_) (fun e he => ?_) (fun e he => ?_) (lfA_leaf ((lf_ref _ _ _ _ _ _ _).2 (by simp))) (by simp [lfA_leaf, lf_ref, lf_int]) rfl ?_ (fun j => ?_) (fun j => ?_) (fun j => ?_)
  · simp only [List.mem_cons, List.not_mem_nil, or_false] at he
    subst he; simp
  · simp only [List.map_cons, List.map_nil, List.mem_cons, List.not_mem_nil, or_false] at hi hj
    omega
  · simp only [List.mem_cons, List.not_mem_nil, or_false] at he
    subst he; simp [lfO_rws]
  · simp only [List.mem_cons, List.not_mem_nil, or_false] at he
    rcases he with rfl | rfl
    · simp [lfO_rws]
    · simp [lfO_rws]
  · simp only [renH, renO, ren_rws]
  · simp only [renH, renO, ren_rws]; rfl
  · rfl
  · simp only [renO, ren_rws]

theorem rcancel0 (now : Int) (L : List TDue) (id : Int) (hl : L.length ≤ 5000) (h : hasR L id = false) : HCall Try.prog 31 [.ptr 0 1 0 0, .int .i64 id] (robs 0 1 now L) 2 (fun q h _ => q = .int .i64 6 ∧ h = robs 0 1 now L) := by
  have c1 := find_r L id hl
  have hi : ¬ 0 ≤ idx (fun d : TDue => decide (d.iD = id)) L := fun h2 => by
    have := idx_ge (fun d : TDue => decide (d.iD = id)) L
    unfold hasR at h
    rw [← this, decide_eq_false_iff_not] at h
    exact h h2
  generalize idx (fun d : TDue => decide (d.iD = id)) L = I at *
  refine HCall_intro (c := Try.f31.body.getD .skip) Try.func31 rfl (by decide +kernel) (W_start ?_)
  simp only [Try.f31, go_sem]
  repeat' first
    | refine Z0 ?_
    | refine Zx ?_
    | refine Zn c1 ?_
    | (refine Ze ?_; clear hK K)
    | refine W_reg fun K hK => ?_
    | refine W_drwR rfl mixed (by decide +kernel) fun K hK => ?_
    | refine W_drw mixed (by decide +kernel) fun K hK => ?_
    | (refine Zb ?_ ?_ <;> intro hb <;> first | (simp (disch := omega) only [go_sem] at hb; done) | (simp (disch := omega) only [go_sem] at hb; try omega) | try omega)
    | (refine Zl ?_; intro bn hnil; (try simp (disch := omega) only [go_sem] at hnil); dsimp only [putT, List.set_cons_succ, List.set_cons_zero])
  all_goals exact Zrf

theorem rcancel1 (now : Int) (L : List TDue) (id : Int) (hl : L.length ≤ 5000) (b : Nat) (hb : b < L.length) (hi : idx (fun d : TDue => decide (d.iD = id)) L = b) : HCall Try.prog 31 [.ptr 0 1 0 0, .int .i64 id] (robs 0 1 now L) 2
    (fun q h _ => q = .int .i64 0 ∧ h = [(18, .arr 2 (rws (L.eraseIdx b))), (1, .arr 2 (rws L)), (0, .arr 2 [rrow 18 now (L.length - 1)])]) := by
  have c1 := find_r L id hl
  rw [hi] at c1
  have c2 := without_M L b hb hl 1
  refine HCall_intro (c := Try.f31.body.getD .skip) Try.func31 rfl (by decide +kernel) (W_start ?_)
  simp only [Try.f31, go_sem]
  repeat' first
    | refine Z0 ?_
    | refine Zx ?_
    | refine Zn c1 ?_
    | refine Zfn c2 ?_
    | (refine Ze ?_; clear hK K)
    | refine W_reg fun K hK => ?_
    | refine W_drwR rfl mixed (by decide +kernel) fun K hK => ?_
    | refine W_drw mixed (by decide +kernel) fun K hK => ?_
    | (refine Zb ?_ ?_ <;> intro hb <;> first | (simp (disch := omega) only [go_sem] at hb; done) | (simp (disch := omega) only [go_sem] at hb; try omega) | try omega)
    | (refine Zl ?_; intro bn hnil; (try simp (disch := omega) only [go_sem] at hnil); dsimp only [putT, List.set_cons_succ, List.set_cons_zero])
  all_goals exact Zrf

end Go.Proofs.Ytfbmbjfcgoahfaa
