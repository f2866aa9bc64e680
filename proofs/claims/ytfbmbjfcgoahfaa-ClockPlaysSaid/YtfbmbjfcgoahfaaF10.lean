/-
  ClockParts, ClockOnce; walked.
-/
import Derived.Test.YtfbmbjfcgoahfaaF9
namespace Go.Proofs.Ytfbmbjfcgoahfaa
open Go Go.AM
set_option maxHeartbeats 8000000
set_option maxRecDepth 8000
set_option linter.unusedSimpArgs false
set_option linter.unusedVariables false

theorem advL_bad {n to : Int} (l : List TItem) (h : to < n ∨ to > 1099511627776) : advL n l to = (n, l, [], 1) := by unfold advL; rw [if_pos h]
theorem advL_ok {n to : Int} (l : List TItem) (h : ¬ (to < n ∨ to > 1099511627776)) : advL n l to = (to, l.dropWhile (dueB to), (l.takeWhile (dueB to)).map dueOf, 0) := by unfold advL; rw [if_neg h]
theorem View.small {s : HS} {l : List TItem} (v : View s l) : l.length ≤ 4096 := by have h1 := v.n; have h2 := v.g.le; have h3 := v.g.len; omega
theorem tk_len (p : TItem → Bool) (l : List TItem) : (l.takeWhile p).length + (l.dropWhile p).length = l.length := by rw [← List.length_append, List.takeWhile_append_dropWhile]

theorem clockParts_ok (l : List TDue) (ms : List Int) (to : Int) (hl : l.length ≤ maxLen) (hw : ∀ d, d ∈ l → d.wf) (hm : ms.length ≤ maxLen) (hto : -9223372036854775808 ≤ to ∧ to ≤ 9223372036854775807) :
    PCall Try.prog 5 [.sl (rws l) none, .sl (rws ms) none, .int .i64 to] (· = .bool true) := by
  have c0 := awake5_ok
  have cN := laid_N l hl hw
  have hlaw := laid_law (l.take 300) fun d hd => hw d (List.mem_of_mem_take hd)
  generalize laidF (l.take 300) = F at *
  obtain ⟨S, L, n⟩ := F
  have hc := hlaw.c
  clear hlaw
  simp only [] at hc cN
  unfold maxLen at hl hm
  have hL := hc.v.small
  refine PCall_intro (c := Try.f5.body.getD .skip) Try.func5 rfl (by decide +kernel) Zf (W_start ?_)
  simp only [Try.f5, go_sem]
  by_cases h0 : 0 ≤ to ∧ to ≤ 1099511627776
  · repeat' first
      | refine Z0 ?_
      | refine Zx ?_
      | refine Zc c0 ?_
      | refine Zbn cN ?_
      | (refine Ze ?_; clear hK K)
      | refine W_reg fun K hK => ?_
      | refine W_drwR rfl mixed (by decide +kernel) fun K hK => ?_
      | refine W_drw mixed (by decide +kernel) fun K hK => ?_
      | (refine Zb ?_ ?_ <;> intro hb <;> first | (simp (disch := omega) only [go_sem] at hb; done) | (simp (disch := omega) only [go_sem] at hb; try omega) | try omega)
      | (refine Zl ?_; intro bn hnil; (try simp (disch := omega) only [go_sem] at hnil); dsimp only [putT, List.set_cons_succ, List.set_cons_zero])
    all_goals
      (apply W_unbornAt 11 2; (case ht => exact rfl); (case e => exact sT); (case hn => exact nT))
      refine W_foldM (fun (a : Nat × Int × HS × List TItem × List TDue) => [none, none, none, none, none, none, some .junk, none, none, none, none, some (.ref 45 a.2.2.2.2.length 0 a.2.2.2.2.length false a.2.2.2.2.length), some (.int .i64 a.1), some .junk, some .junk, some .junk, none, none, none, none, none, none, none, none, none, none, none, none, none, none, none, none, none, none, none, none, none, none, some .junk, some .junk, some .junk, some .junk, some .junk, some .junk, some .junk, some .junk, some .junk, some .junk, some .junk, some .junk, some .junk, some .junk, some .junk, some .junk, some .junk, some .junk, some .junk, some .junk, some .junk, some .junk, some .junk, some .junk, some .junk, some .junk, some .junk, some .junk, some .junk, some .junk, some .junk, some .junk, some .junk, some .junk, some .junk, some .junk, some .junk, some .junk, some .junk]) (fun a => (45, .arr 2 (rws a.2.2.2.2)) :: cobs 31 27 29 25 a.2.1 a.2.2.1 ++ cobs 14 10 12 8 0 S)
        (fun a => a.1 ≤ ms.length ∧ a.1 ≤ 100 ∧ CView a.2.1 a.2.2.1 a.2.2.2.1 ∧ a.2.1 ≤ to ∧ a.2.2.2.1 = L.dropWhile (dueB a.2.1) ∧ a.2.2.2.2 = (L.takeWhile (dueB a.2.1)).map dueOf) (fun a => 100 - a.1) (0, 0, S, L, []) ⟨by omega, by omega, hc, h0.1, (due_none fun y hy => (hc.key y hy).1).2.symm, by rw [(due_none fun y hy => (hc.key y hy).1).1]; rfl⟩ (by exact weak_mk wkD wkH wkN wkM (by omega)) ?_
      rintro ⟨i, nb, sb, lb, parts⟩ ⟨h1, h2, cb, h3, h4, h5⟩
      simp only [] at h1 h2 cb h3 h4 h5
      have q1 := tk_len (dueB nb) L
      have q2 := cb.lo
      have hp : parts.length ≤ 4096 := by rw [h5, List.length_map]; omega
      have hlb : parts.length + lb.length = L.length := by rw [h5, h4, List.length_map]; omega
      simp only [msk_none, msk_some, msk_nil]
      by_cases hi : i < ms.length ∧ i < 100
      · obtain ⟨m, hm1⟩ := some_of_lt hi.1
        by_cases hgt : m > to
        · have zz1 := rws_get hm1
          repeat' first
            | refine Z1 ?_
            | refine Zx ?_
            | (refine Ze ?_; clear hK K)
            | refine W_reg fun K hK => ?_
            | refine W_drwR rfl mixed (by decide +kernel) fun K hK => ?_
            | refine W_drw mixed (by decide +kernel) fun K hK => ?_
            | (refine Zb ?_ ?_ <;> intro hb <;> first | (simp (disch := omega) only [go_sem, zz1] at hb; done) | (simp (disch := omega) only [go_sem, zz1] at hb; try omega) | try omega)
            | (refine Zl ?_; intro bn hnil; (try simp (disch := omega) only [go_sem, zz1] at hnil); dsimp only [putT, List.set_cons_succ, List.set_cons_zero])
          all_goals exact L_next ⟨(i + 1, nb, sb, lb, parts), by simp; omega, ⟨by simp; omega, by simp; omega, cb, h3, h4, h5⟩, (by exact weak_mk wkD wkH wkN wkM (by omega))⟩
        · have c1 := now_V (n := nb) (s := sb) (C := 31) (H := 27) (a := 29) (m := 25) (by decide)
          obtain ⟨s', c', c2⟩ := adv_V cb m
          have c2 := c2 (C := 31) (H := 27) (a := 29) (m := 25) (by decide)
          by_cases hlt : m < nb
          · rw [advL_bad lb (.inl hlt)] at c' c2
            simp only [] at c' c2
            have zz1 := rws_get hm1
            have zz2 := List.append_nil (rws parts)
            repeat' first
              | refine Z2 ?_
              | refine Zx ?_
              | refine Zfc c1 ?_
              | refine Zfc c2 ?_
              | (refine Ze ?_; clear hK K)
              | refine W_reg fun K hK => ?_
              | refine W_drwR rfl mixed (by decide +kernel) fun K hK => ?_
              | refine W_drw mixed (by decide +kernel) fun K hK => ?_
              | (refine Zb ?_ ?_ <;> intro hb <;> first | (simp (disch := omega) only [go_sem, zz1, zz2] at hb; done) | (simp (disch := omega) only [go_sem, zz1, zz2] at hb; try omega) | try omega)
              | (refine Zl ?_; intro bn hnil; (try simp (disch := omega) only [go_sem, zz1, zz2] at hnil); dsimp only [putT, List.set_cons_succ, List.set_cons_zero])
            all_goals exact L_next ⟨(i + 1, nb, s', lb, parts), by simp; omega, ⟨by simp; omega, by simp; omega, c', h3, h4, h5⟩, (by exact weak_mk wkD wkH wkN wkM (by omega))⟩
          · rw [advL_ok lb (by omega)] at c' c2
            simp only [] at c' c2
            obtain ⟨t1, t2⟩ := take_parts (dueB_le (a := nb) (b := m) (by omega)) L
            have q3 := tk_len (dueB m) lb
            obtain ⟨d, hd⟩ : ∃ d, (lb.takeWhile (dueB m)).map dueOf = d := ⟨_, rfl⟩
            have hdl : d.length ≤ 4096 := by rw [← hd, List.length_map]; omega
            rw [hd] at c2
            have r1 : rws parts ++ rws d = rws (parts ++ d) := rws_append _ _
            have r2 : (parts ++ d).length = parts.length + d.length := List.length_append
            have zz1 := rws_get hm1
            have zz2 := r1
            repeat' first
              | refine Z2 ?_
              | refine Zx ?_
              | refine Zfc c1 ?_
              | refine Zfc c2 ?_
              | (refine Ze ?_; clear hK K)
              | refine W_reg fun K hK => ?_
              | refine W_drwR rfl mixed (by decide +kernel) fun K hK => ?_
              | refine W_drw mixed (by decide +kernel) fun K hK => ?_
              | (refine Zb ?_ ?_ <;> intro hb <;> first | (simp (disch := omega) only [go_sem, zz1, zz2] at hb; done) | (simp (disch := omega) only [go_sem, zz1, zz2] at hb; try omega) | try omega)
              | (refine Zl ?_; intro bn hnil; (try simp (disch := omega) only [go_sem, zz1, zz2] at hnil); dsimp only [putT, List.set_cons_succ, List.set_cons_zero])
            all_goals exact L_next ⟨(i + 1, m, s', lb.dropWhile (dueB m), parts ++ d), by simp; omega, ⟨by simp; omega, by simp; omega, c', by simp; omega, by simp only []; rw [h4, t2], by simp only []; rw [t1, List.map_append, ← h4, hd, h5]⟩, (by exact weak_mk wkD wkH wkN wkM (by omega))⟩
      · obtain ⟨s', c', c2⟩ := adv_V cb to
        have c2 := c2 (C := 31) (H := 27) (a := 29) (m := 25) (by decide)
        obtain ⟨s2, c3', c3⟩ := adv_V hc to
        have c3 := c3 (C := 14) (H := 10) (a := 12) (m := 8) (by decide)
        rw [advL_ok lb (by omega)] at c' c2
        rw [advL_ok L (by omega)] at c3' c3
        simp only [] at c' c2 c3' c3
        obtain ⟨t1, t2⟩ := take_parts (dueB_le (a := nb) (b := to) (by omega)) L
        have q3 := tk_len (dueB to) lb
        have q4 := tk_len (dueB to) L
        obtain ⟨d, hd⟩ : ∃ d, (lb.takeWhile (dueB to)).map dueOf = d := ⟨_, rfl⟩
        have hdl : d.length ≤ 4096 := by rw [← hd, List.length_map]; omega
        have e : (L.takeWhile (dueB to)).map dueOf = parts ++ d := by rw [t1, List.map_append, ← h4, hd, h5]
        rw [hd] at c2
        rw [e] at c3
        have r1 : rws parts ++ rws d = rws (parts ++ d) := rws_append _ _
        have r2 : (parts ++ d).length = parts.length + d.length := List.length_append
        have c4 := same5_ok (parts ++ d) (parts ++ d) (by omega) (by omega)
        rw [show decide (parts ++ d = parts ++ d) = true by simp] at c4
        have zz1 := r1
        have zz2 := r2.symm
        repeat' first
          | refine Z2 ?_
          | refine Zx ?_
          | refine Zfc c2 ?_
          | refine Zfc c3 ?_
          | refine Zn c4 ?_
          | (refine Ze ?_; clear hK K)
          | refine W_reg fun K hK => ?_
          | refine W_drwR rfl mixed (by decide +kernel) fun K hK => ?_
          | refine W_drw mixed (by decide +kernel) fun K hK => ?_
          | (refine Zb ?_ ?_ <;> intro hb <;> first | (simp (disch := omega) only [go_sem, zz1, zz2] at hb; done) | (simp (disch := omega) only [go_sem, zz1, zz2] at hb; try omega) | try omega)
          | (refine Zl ?_; intro bn hnil; (try simp (disch := omega) only [go_sem, zz1, zz2] at hnil); dsimp only [putT, List.set_cons_succ, List.set_cons_zero])
        all_goals exact Zr
  · repeat' first
      | refine Z0 ?_
      | refine Zx ?_
      | refine Zc c0 ?_
      | refine Zbn cN ?_
      | (refine Ze ?_; clear hK K)
      | refine W_reg fun K hK => ?_
      | refine W_drwR rfl mixed (by decide +kernel) fun K hK => ?_
      | refine W_drw mixed (by decide +kernel) fun K hK => ?_
      | (refine Zb ?_ ?_ <;> intro hb <;> first | (simp (disch := omega) only [go_sem] at hb; done) | (simp (disch := omega) only [go_sem] at hb; try omega) | try omega)
      | (refine Zl ?_; intro bn hnil; (try simp (disch := omega) only [go_sem] at hnil); dsimp only [putT, List.set_cons_succ, List.set_cons_zero])
    all_goals exact Zr

end Go.Proofs.Ytfbmbjfcgoahfaa
