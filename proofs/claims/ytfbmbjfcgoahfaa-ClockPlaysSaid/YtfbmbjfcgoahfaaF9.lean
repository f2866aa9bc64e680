/-
  A clock at which some are to be due; ClockParts, ClockOnce; walked.
-/
import Derived.Test.YtfbmbjfcgoahfaaF8
import Derived.Test.YtfbmbjfcgoahfaaM5
namespace Go.Proofs.Ytfbmbjfcgoahfaa
open Go Go.AM
set_option maxHeartbeats 4000000
set_option maxRecDepth 8000
set_option linter.unusedSimpArgs false
set_option linter.unusedVariables false

theorem laid_N (l : List TDue) (hl : l.length ≤ maxLen) (hw : ∀ d, d ∈ l → d.wf) : NCall Try.prog 21 [.sl (rws l) none] (.tuple [.ptr 10 1 0 0, .int .i64 (laidF (l.take 300)).2.2]) (cobs 10 6 8 4 0 (laidF (l.take 300)).1) 11 := by
  unfold maxLen at hl
  refine ⟨?_, by simp, fun e he => ?_, fun e he => ?_, lfA_tup _ _ (by simp [lf_ptr, lf_int]), fun x hx => ?_⟩
  · refine HCall_intro (c := Try.f21.body.getD .skip) Try.func21 rfl (by decide +kernel) (W_start ?_)
    simp only [Try.f21, go_sem]
    repeat' first
      | refine Z0 ?_
      | refine Zx ?_
      | refine Zbn cnew_N ?_
      | (refine Ze ?_; clear hK K)
      | refine W_reg fun K hK => ?_
      | refine W_drwR rfl mixed (by decide +kernel) fun K hK => ?_
      | refine W_drw mixed (by decide +kernel) fun K hK => ?_
      | (refine Zb ?_ ?_ <;> intro hb <;> first | (simp (disch := omega) only [go_sem] at hb; done) | (simp (disch := omega) only [go_sem] at hb; try omega) | try omega)
      | (refine Zl ?_; intro bn hnil; (try simp (disch := omega) only [go_sem] at hnil); dsimp only [putT, List.set_cons_succ, List.set_cons_zero])
    refine W_foldM (fun (a : Nat × HS × List TItem × Nat) => [none, none, none, none, none, some (.int .i64 a.2.2.2), some (.int .i64 a.1), none, some .junk, some .junk, some .junk, some .junk, some .junk, some .junk, some .junk, some .junk, some .junk, some .junk, some .junk, some .junk, some .junk, some .junk, some .junk, some .junk, some .junk, some .junk, some .junk, some .junk, some .junk, some .junk, some .junk, some .junk, some .junk]) (fun a => cobs 10 6 8 4 0 a.2.1) (fun a => a.1 ≤ l.length ∧ a.1 ≤ 300 ∧ a.2 = laidF (l.take a.1) ∧ a.2.2.2 ≤ a.1) (fun a => 300 - a.1) (0, newS, [], 0) ⟨by omega, by omega, rfl, by simp⟩ (by exact weak_mk wkD wkH wkN wkM (by omega)) ?_
    rintro ⟨i, s, m, n⟩ ⟨h1, h2, h3, h6⟩
    simp only [] at h1 h2 h3 h6
    have hlaw := laid_law (l.take i) fun d hd => hw d (List.mem_of_mem_take hd)
    rw [← h3] at hlaw
    simp only [msk_none, msk_some, msk_nil]
    by_cases hi : i < l.length ∧ i < 300
    · obtain ⟨d, hd⟩ := some_of_lt hi.1
      have hdw := hw d (List.mem_of_getElem? hd)
      obtain ⟨c', c1⟩ := set_F hlaw.c d.iD d.at_ hdw.1
      have c1 := c1 (C := 10) (H := 6) (a := 8) (m := 4) (by decide)
      have h4 : laidF (l.take (i + 1)) = laidStep (s, m, n) d := by rw [take_snoc hd, laidF_snoc, ← h3]
      unfold laidStep at h4
      by_cases h5 : (setL 0 m d.iD d.at_).2 = 0
      · simp only [if_pos h5] at h4
        simp only [h5] at c1
        have zz1 := rws_get hd
        repeat' first
          | refine Z1 ?_
          | refine Zx ?_
          | refine Zfc c1 ?_
          | (refine Ze ?_; clear hK K)
          | refine W_reg fun K hK => ?_
          | refine W_drwF mixed (by decide +kernel) fun K hK => ?_
          | (refine Zb ?_ ?_ <;> intro hb <;> first | (simp (disch := omega) only [go_sem, zz1] at hb; done) | (simp (disch := omega) only [go_sem, zz1] at hb; try omega) | try omega)
          | (refine Zl ?_; intro bn hnil; (try simp (disch := omega) only [go_sem, zz1] at hnil); dsimp only [putT, List.set_cons_succ, List.set_cons_zero])
        all_goals exact L_next ⟨(i + 1, setS 0 s d.iD d.at_, (setL 0 m d.iD d.at_).1, n + 1), by simp; omega, ⟨by simp; omega, by simp; omega, h4.symm, by simp; omega⟩, (by exact weak_mk wkD wkH wkN wkM (by omega))⟩
      · simp only [if_neg h5] at h4
        have zz1 := rws_get hd
        have zz2 := h5
        repeat' first
          | refine Z2 ?_
          | refine Zx ?_
          | refine Zfc c1 ?_
          | (refine Ze ?_; clear hK K)
          | refine W_reg fun K hK => ?_
          | refine W_drwF mixed (by decide +kernel) fun K hK => ?_
          | (refine Zb ?_ ?_ <;> intro hb <;> first | (simp (disch := omega) only [go_sem, zz1, zz2] at hb; done) | (simp (disch := omega) only [go_sem, zz1, zz2] at hb; try omega) | try omega)
          | (refine Zl ?_; intro bn hnil; (try simp (disch := omega) only [go_sem, zz1, zz2] at hnil); dsimp only [putT, List.set_cons_succ, List.set_cons_zero])
        all_goals exact L_next ⟨(i + 1, setS 0 s d.iD d.at_, (setL 0 m d.iD d.at_).1, n), by simp; omega, ⟨by simp; omega, by simp; omega, h4.symm, by simp; omega⟩, (by exact weak_mk wkD wkH wkN wkM (by omega))⟩
    · have h4 : l.take 300 = l.take i := by
        rcases Nat.lt_or_ge i l.length with h5 | h5
        · have : i = 300 := by omega
          rw [this]
        · rw [List.take_of_length_le (by omega), List.take_of_length_le (by omega)]
      rw [h4, ← h3]
      repeat' first
        | refine Z0 ?_
        | refine Zx ?_
        | (refine Ze ?_; clear hK K)
        | refine W_reg fun K hK => ?_
        | refine W_drwR rfl mixed (by decide +kernel) fun K hK => ?_
        | refine W_drw mixed (by decide +kernel) fun K hK => ?_
        | (refine Zb ?_ ?_ <;> intro hb <;> first | (simp (disch := omega) only [go_sem] at hb; done) | (simp (disch := omega) only [go_sem] at hb; try omega) | try omega)
        | (refine Zl ?_; intro bn hnil; (try simp (disch := omega) only [go_sem] at hnil); dsimp only [putT, List.set_cons_succ, List.set_cons_zero])
      all_goals exact Zrf
  · simp only [List.mem_cons, List.not_mem_nil, or_false] at he
    rcases he with rfl | rfl | rfl | rfl <;> simp
  · simp only [List.mem_cons, List.not_mem_nil, or_false] at he
    rcases he with rfl | rfl | rfl | rfl
    · simp [lfO_row, lf_ptr, lf_int]
    · simp [lfO_mpe]
    · simp [lfO_rws]
    · simp [lfO_row, lf_ref, lf_mapv]
  · simp only [List.mem_cons, List.not_mem_nil, or_false] at hx
    subst hx
    exact .sl _ _ (rws_mem l)

end Go.Proofs.Ytfbmbjfcgoahfaa
