/-
  ClockOnce; walked.
-/
import Derived.Test.YtfbmbjfcgoahfaaF10
namespace Go.Proofs.Ytfbmbjfcgoahfaa
open Go Go.AM
set_option maxHeartbeats 8000000
set_option maxRecDepth 8000
set_option linter.unusedSimpArgs false
set_option linter.unusedVariables false

theorem clockOnce_ok (l : List TDue) (ms : List Int) (to : Int) (hl : l.length ≤ maxLen) (hw : ∀ d, d ∈ l → d.wf) (hm : ms.length ≤ maxLen) (hto : -9223372036854775808 ≤ to ∧ to ≤ 9223372036854775807) :
    PCall Try.prog 7 [.sl (rws l) none, .sl (rws ms) none, .int .i64 to] (· = .bool true) := by
  have c0 := awake5_ok
  have cN := laid_N l hl hw
  have hlaw := laid_law (l.take 300) fun d hd => hw d (List.mem_of_mem_take hd)
  generalize laidF (l.take 300) = F at *
  obtain ⟨S, L, N⟩ := F
  have hc := hlaw.c
  have hN := hlaw.n
  have hM := hlaw.mem
  clear hlaw
  simp only [] at hc cN hN hM
  unfold maxLen at hl hm
  have hL := hc.v.small
  refine PCall_intro (c := Try.f7.body.getD .skip) Try.func7 rfl (by decide +kernel) Zf (W_start ?_)
  simp only [Try.f7, go_sem]
  repeat' first
    | refine Z0 ?_
    | refine Zx ?_
    | refine Zc c0 ?_
    | refine Zbn cN ?_
    | (refine Ze ?_; clear hK K)
    | refine W_reg fun K hK => ?_
    | refine W_drwR rfl mixed (by decide +kernel) fun K hK => ?_
    | refine W_drw mixed (by decide +kernel) fun K hK => ?_
    | (refine Zb ?_ ?_ <;> intro hb <;> first | (simp (disch := omega) only [go_sem] at hb; done) | (simp (disch := omega) only [go_sem] at hb; try omega) | try omega)
    | (refine Zl ?_; intro bn hnil; (try simp (disch := omega) only [go_sem] at hnil); dsimp only [putT, List.set_cons_succ, List.set_cons_zero])
  refine W_foldJ (fun (a : Nat × Nat × HS × List TItem) => [none, none, none, none, none, none, none, none, some (.int .i64 a.2.1), some (.int .i64 a.1), none, none, none, none, none, none, none, none, none, none, none, none, none, none, some .junk, some .junk, some .junk, some .junk, some .junk, some .junk, some .junk, some .junk, some .junk, some .junk, some .junk, some .junk, some .junk, some .junk, some .junk, some .junk, some .junk, some .junk, some .junk]) (fun a => cobs 14 10 12 8 0 a.2.2.1)
    (fun a => a.1 ≤ ms.length ∧ a.1 ≤ 100 ∧ CView 0 a.2.2.1 a.2.2.2 ∧ a.2.1 = a.2.2.2.length ∧ ∀ y, y ∈ a.2.2.2 → ∃ d, d ∈ l.take 300 ∧ y = itemOf d) (fun a => 100 - a.1)
    (fun (a : Nat × HS × List TItem) => [none, none, none, none, none, none, none, none, some (.int .i64 a.1), some .junk, none, none, none, none, none, none, none, none, none, none, none, none, none, none, some .junk, some .junk, some .junk, some .junk, some .junk, some .junk, some .junk, some .junk, some .junk, some .junk, some .junk, some .junk, some .junk, some .junk, some .junk, some .junk, some .junk, some .junk, some .junk]) (fun a => cobs 14 10 12 8 0 a.2.1)
    (fun a => CView 0 a.2.1 a.2.2 ∧ a.1 = a.2.2.length ∧ ∀ y, y ∈ a.2.2 → ∃ d, d ∈ l.take 300 ∧ y = itemOf d) (0, N, S, L) ⟨by omega, by omega, hc, hN, hM⟩ (by exact weak_mk wkD wkH wkN wkM (by omega)) ?_ ?_
  rotate_left
  · rintro ⟨i, n, s, lc⟩ ⟨h1, h2, cc, h3, h4⟩
    simp only [] at h1 h2 cc h3 h4
    have hlc := cc.v.small
    simp only [msk_none, msk_some, msk_nil]
    by_cases hi : i < ms.length ∧ i < 100
    · obtain ⟨m, hm1⟩ := some_of_lt hi.1
      obtain ⟨s', c', c1⟩ := cancel_V cc m
      have c1 := c1 (C := 14) (H := 10) (a := 12) (m := 8) (by decide)
      unfold removeL at c' c1
      cases hh : hasL lc m with
      | true =>
        rw [if_pos hh] at c' c1
        have hlen := len_cutL cc.v.ids (hasL_t.1 hh)
        have u1 : (n : Int) - 1 = ((n - 1 : Nat) : Int) := by omega
        have zz1 := rws_get hm1
        have zz2 := u1
        repeat' first
          | refine Z2 ?_
          | refine Zx ?_
          | refine Zfc c1 ?_
          | (refine Ze ?_; clear hK K)
          | refine W_reg fun K hK => ?_
          | refine W_drwR rfl mixed (by decide +kernel) fun K hK => ?_
          | refine W_drw mixed (by decide +kernel) fun K hK => ?_
          | (refine Zb ?_ ?_ <;> intro hb <;> first | (simp (disch := omega) only [go_sem, zz1, zz2] at hb; done) | (simp (disch := omega) only [go_sem, zz1, zz2] at hb; try omega) | try omega)
          | (refine Zl ?_; intro bn hnil; (try simp (disch := omega) only [go_sem, zz1, zz2] at hnil); dsimp only [putT, List.set_cons_succ, List.set_cons_zero])
        all_goals exact F_next ⟨(i + 1, n - 1, s', cutL lc m), by simp; omega, ⟨by simp; omega, by simp; omega, c', by simp only []; omega, fun y hy => h4 y (mem_cutL.1 hy).1⟩, (by exact weak_mk wkD wkH wkN wkM (by omega))⟩
      | false =>
        rw [if_neg (by rw [hh]; simp)] at c' c1
        have zz1 := rws_get hm1
        repeat' first
          | refine Z1 ?_
          | refine Zx ?_
          | refine Zfc c1 ?_
          | (refine Ze ?_; clear hK K)
          | refine W_reg fun K hK => ?_
          | refine W_drwR rfl mixed (by decide +kernel) fun K hK => ?_
          | refine W_drw mixed (by decide +kernel) fun K hK => ?_
          | (refine Zb ?_ ?_ <;> intro hb <;> first | (simp (disch := omega) only [go_sem, zz1] at hb; done) | (simp (disch := omega) only [go_sem, zz1] at hb; try omega) | try omega)
          | (refine Zl ?_; intro bn hnil; (try simp (disch := omega) only [go_sem, zz1] at hnil); dsimp only [putT, List.set_cons_succ, List.set_cons_zero])
        all_goals exact F_next ⟨(i + 1, n, s', lc), by simp; omega, ⟨by simp; omega, by simp; omega, c', h3, h4⟩, (by exact weak_mk wkD wkH wkN wkM (by omega))⟩
    · repeat' first
        | refine Z0 ?_
        | (refine Ze ?_; clear hK K)
        | refine W_reg fun K hK => ?_
        | refine W_drwR rfl mixed (by decide +kernel) fun K hK => ?_
        | refine W_drw mixed (by decide +kernel) fun K hK => ?_
        | (refine Zb ?_ ?_ <;> intro hb <;> first | (simp (disch := omega) only [go_sem] at hb; done) | (simp (disch := omega) only [go_sem] at hb; try omega) | try omega)
        | (refine Zl ?_; intro bn hnil; (try simp (disch := omega) only [go_sem] at hnil); dsimp only [putT, List.set_cons_succ, List.set_cons_zero])
      all_goals exact FJ_exit (n, s, lc) ⟨cc, h3, h4⟩ (by exact weak_mk wkD wkH wkN wkM (by omega))
  rintro ⟨n, s, lc⟩ ⟨cc, h3, h4⟩
  simp only [] at cc h3 h4
  have hlc := cc.v.small
  simp only [msk_none, msk_some, msk_nil]
  by_cases h0 : 0 ≤ to ∧ to ≤ 1099511627776
  · obtain ⟨s', c', c2⟩ := adv_V cc to
    have c2 := c2 (C := 14) (H := 10) (a := 12) (m := 8) (by decide)
    rw [advL_ok lc (by omega)] at c' c2
    simp only [] at c' c2
    have q3 := tk_len (dueB to) lc
    obtain ⟨T, hT⟩ : ∃ T, lc.takeWhile (dueB to) = T := ⟨_, rfl⟩
    obtain ⟨R, hR⟩ : ∃ R, lc.dropWhile (dueB to) = R := ⟨_, rfl⟩
    have hgone := fun x h => due_gone cc.v.ids (to := to) (x := x) h
    have hdm := fun x h => due_mem (l := lc) (to := to) (x := x) h
    have hTs : Sorted T := by rw [← hT]; exact List.Pairwise.sublist (List.takeWhile_prefix _).sublist cc.v.srt
    rw [hT] at c2 q3 hgone hdm
    rw [hR] at c' q3 hgone
    obtain ⟨D, hD⟩ : ∃ D, T.map dueOf = D := ⟨_, rfl⟩
    have hDl : D.length = T.length := by rw [← hD, List.length_map]
    rw [hD] at c2
    have c3 := left_V c' (C := 14) (H := 10) (a := 12) (m := 8) (by decide)
    have u2 : (D.length : Int) + (R.length : Int) = (n : Int) := by omega
    have zz1 := u2
    repeat' first
      | refine Z1 ?_
      | refine Zx ?_
      | refine Zfc c2 ?_
      | refine Zfc c3 ?_
      | (refine Ze ?_; clear hK K)
      | refine W_reg fun K hK => ?_
      | refine W_drwR rfl mixed (by decide +kernel) fun K hK => ?_
      | refine W_drw mixed (by decide +kernel) fun K hK => ?_
      | (refine Zb ?_ ?_ <;> intro hb <;> first | (simp (disch := omega) only [go_sem, zz1] at hb; done) | (simp (disch := omega) only [go_sem, zz1] at hb; try omega) | try omega)
      | (refine Zl ?_; intro bn hnil; (try simp (disch := omega) only [go_sem, zz1] at hnil); dsimp only [putT, List.set_cons_succ, List.set_cons_zero])
    refine W_foldM (fun (a : Nat × HS) => [none, none, none, none, none, none, some .junk, none, none, none, none, none, some (.int .i64 a.1), some .junk, some .junk, none, none, none, none, none, none, none, none, none, none, none, none, none, none, none, none, none, none, none, none, none, none, none, none, none, none, none, none, none, none, none, none, none, none, none, none, none, none, none, none, none, none, none, none, none, none, none, none, none, none, none, some .junk, some .junk, some .junk, some .junk, some .junk, some .junk, some .junk, some .junk, some .junk, some .junk, some .junk, some .junk, some .junk, some .junk, some .junk, some .junk, some .junk, some .junk, some .junk, some .junk, some .junk, some .junk, some .junk, some .junk, some .junk, some .junk, some .junk, some .junk, some .junk, some .junk, some .junk, some .junk, some .junk, some .junk, some .junk, some .junk, some .junk, some .junk, some .junk, some .junk, some .junk, some .junk, some .junk, some .junk, some .junk, some .junk, some .junk, some .junk, some .junk, some .junk, some .junk, some .junk, some .junk, some .junk, some .junk, some .junk, some .junk, some .junk, some .junk, some .junk, some .junk, some .junk, some .junk, some .junk, some .junk, some .junk, some .junk, some .junk, some .junk, some .junk, some .junk, some .junk, some .junk, some .junk, some .junk, some .junk, some .junk, some .junk, some .junk, some .junk, some .junk, some .junk, some .junk, some .junk, some .junk, some .junk, some .junk, some .junk, some .junk, some .junk, some .junk, some .junk, some .junk]) (fun a => cobs 14 10 12 8 to a.2)
      (fun a => a.1 ≤ D.length ∧ CView to a.2 R) (fun a => D.length - a.1) (0, s') ⟨by omega, c'⟩ (by exact weak_mk wkD wkH wkN wkM (by omega)) ?_
    rintro ⟨j, t⟩ ⟨k1, ct⟩
    simp only [] at k1 ct
    simp only [msk_none, msk_some, msk_nil]
    by_cases hj : j < D.length
    · obtain ⟨x, hx⟩ := some_of_lt (show j < T.length by omega)
      have hxm := List.mem_of_getElem? hx
      have hxk := (hdm x hxm).2
      have hdx : D[j]? = some ⟨x.iD, x.key⟩ := by rw [← hD, List.getElem?_map, hx]; rfl
      obtain ⟨e, he1, he2⟩ := h4 x (hdm x hxm).1
      have hxe : (⟨x.iD, x.key⟩ : TDue) = e := by rw [he2]; rfl
      have hno := hgone x hxm
      obtain ⟨t', ct', c4⟩ := cancel_V ct x.iD
      have c4 := c4 (C := 14) (H := 10) (a := 12) (m := 8) (by decide)
      unfold removeL at ct' c4
      rw [if_neg (by rw [hno]; simp)] at ct' c4
      have hb : j = 0 ∨ ∃ y : TItem, 0 < j ∧ D[j - 1]? = some ⟨y.iD, y.key⟩ ∧ ((j : Int) - 1).toNat = j - 1 ∧ (y.key < x.key ∨ (y.key = x.key ∧ y.iD < x.iD)) := by
        by_cases hj0 : 0 < j
        · obtain ⟨y, hy⟩ := some_of_lt (show j - 1 < T.length by omega)
          have hy2 := due_order hTs (show j - 1 < j by omega) hy hx
          rw [goes_t] at hy2
          exact .inr ⟨y, hj0, by rw [← hD, List.getElem?_map, hy]; rfl, by omega, hy2⟩
        · exact .inl (by omega)
      have hde : D[j]? = some e := by rw [hdx, hxe]
      have hcut : ∀ k, ¬ (k < l.length ∧ k < 300) → k ≤ 300 → (l.take k).any (fun z => decide (z = e)) = true := fun k hk hk2 => by
        have : l.take 300 = l.take k := by
          rcases Nat.lt_or_ge k l.length with h5 | h5
          · have : k = 300 := by omega
            rw [this]
          · rw [List.take_of_length_le (by omega), List.take_of_length_le (by omega)]
        rw [← this, List.any_eq_true]
        exact ⟨e, he1, by simp⟩
      rcases hb with hj0e | ⟨y, hj0, hy1, u3, hy2 | hy2⟩
      have zz1 := rws_get hdx
      repeat' first
        | refine Z1 ?_
        | refine Zx ?_
        | (refine Ze ?_; clear hK K)
        | refine W_reg fun K hK => ?_
        | refine W_drwR rfl mixed (by decide +kernel) fun K hK => ?_
        | refine W_drw mixed (by decide +kernel) fun K hK => ?_
        | (refine Zb ?_ ?_ <;> intro hb <;> first | (simp (disch := omega) only [go_sem, zz1] at hb; done) | (simp (disch := omega) only [go_sem, zz1] at hb; try omega) | try omega)
        | (refine Zl ?_; intro bn hnil; (try simp (disch := omega) only [go_sem, zz1] at hnil); dsimp only [putT, List.set_cons_succ, List.set_cons_zero])
      rotate_left
      have zz1 := rws_get hdx
      have zz2 := rws_get hy1
      have zz3 := u3
      repeat' first
        | refine Z3 ?_
        | refine Zx ?_
        | (refine Ze ?_; clear hK K)
        | refine W_reg fun K hK => ?_
        | refine W_drwR rfl mixed (by decide +kernel) fun K hK => ?_
        | refine W_drw mixed (by decide +kernel) fun K hK => ?_
        | (refine Zb ?_ ?_ <;> intro hb <;> first | (simp (disch := omega) only [go_sem, zz1, zz2, zz3] at hb; done) | (simp (disch := omega) only [go_sem, zz1, zz2, zz3] at hb; try omega) | try omega)
        | (refine Zl ?_; intro bn hnil; (try simp (disch := omega) only [go_sem, zz1, zz2, zz3] at hnil); dsimp only [putT, List.set_cons_succ, List.set_cons_zero])
      rotate_left
      have zz1 := rws_get hdx
      have zz2 := rws_get hy1
      have zz3 := u3
      repeat' first
        | refine Z3 ?_
        | refine Zx ?_
        | (refine Ze ?_; clear hK K)
        | refine W_reg fun K hK => ?_
        | refine W_drwR rfl mixed (by decide +kernel) fun K hK => ?_
        | refine W_drw mixed (by decide +kernel) fun K hK => ?_
        | (refine Zb ?_ ?_ <;> intro hb <;> first | (simp (disch := omega) only [go_sem, zz1, zz2, zz3] at hb; done) | (simp (disch := omega) only [go_sem, zz1, zz2, zz3] at hb; try omega) | try omega)
        | (refine Zl ?_; intro bn hnil; (try simp (disch := omega) only [go_sem, zz1, zz2, zz3] at hnil); dsimp only [putT, List.set_cons_succ, List.set_cons_zero])
      rotate_left
      all_goals
        refine W_foldK (fun (a : Nat × Bool) => [none, none, none, none, none, none, none, none, none, none, none, none, none, some (.bool a.2), some (.int .i64 a.1), none, none, none, none, none, none, none, none, none, none, none, none, none, none, none, none, none, none, none, none, none, none, none, none, none, none, none, none, none, none, none, none, none, none, none, none, none, none, none, none, none, none, none, none, none, none, none, none, none, none, none, none, none, none, none, none, none, none, none, none, none, none, none, none, none, none, none, none, none, none, none, none, none, none, none, none, none, none, none, none, none, none, none, none, none, none, none, none, none, none, none, none, none, none, none, none, none, none, none, none, none, none, none, none, none, none, none, none, none, none, some .junk, some .junk, some .junk, some .junk, some .junk, some .junk, some .junk, some .junk, some .junk, some .junk, some .junk, some .junk, some .junk, some .junk, some .junk, some .junk, some .junk, some .junk, some .junk, some .junk, some .junk, some .junk]) (fun a => a.1 ≤ l.length ∧ a.1 ≤ 300 ∧ a.2 = (l.take a.1).any (fun z => decide (z = e))) (fun a => 300 - a.1) (0, false) ⟨by omega, by omega, rfl⟩ (by exact weak_mk wkD wkH wkN wkM (by omega)) ?_
        rintro ⟨k, b⟩ ⟨z1, z2, z3⟩
        simp only [] at z1 z2 z3
        simp only [msk_none, msk_some, msk_nil]
        by_cases hk : k < l.length ∧ k < 300
        · obtain ⟨z, hz⟩ := some_of_lt hk.1
          have hany : (l.take (k + 1)).any (fun z => decide (z = e)) = (b || decide (z = e)) := by rw [take_snoc hz, List.any_append, ← z3]; simp
          cases b with
          | true =>
            have zz1 := rws_get hde
            have zz2 := rws_get hz
            repeat' first
              | refine Z2 ?_
              | refine Zx ?_
              | (refine Ze ?_; clear hK K)
              | refine W_reg fun K hK => ?_
              | refine W_drwR rfl mixed (by decide +kernel) fun K hK => ?_
              | refine W_drw mixed (by decide +kernel) fun K hK => ?_
              | (refine Zb ?_ ?_ <;> intro hb <;> first | (simp (disch := omega) only [go_sem, zz1, zz2] at hb; done) | (simp (disch := omega) only [go_sem, zz1, zz2] at hb; try omega) | try omega)
              | (refine Zl ?_; intro bn hnil; (try simp (disch := omega) only [go_sem, zz1, zz2] at hnil); dsimp only [putT, List.set_cons_succ, List.set_cons_zero])
            exact L_next ⟨(k + 1, true), by simp; omega, ⟨by simp; omega, by simp; omega, by rw [hany]; rfl⟩, (by exact weak_mk wkD wkH wkN wkM (by omega))⟩
          | false =>
            by_cases hze : z = e
            · subst hze
              have zz1 := rws_get hde
              have zz2 := rws_get hz
              repeat' first
                | refine Z2 ?_
                | refine Zx ?_
                | (refine Ze ?_; clear hK K)
                | refine W_reg fun K hK => ?_
                | refine W_drwR rfl mixed (by decide +kernel) fun K hK => ?_
                | refine W_drw mixed (by decide +kernel) fun K hK => ?_
                | (refine Zb ?_ ?_ <;> intro hb <;> first | (simp (disch := omega) only [go_sem, zz1, zz2] at hb; done) | (simp (disch := omega) only [go_sem, zz1, zz2] at hb; try omega) | try omega)
                | (refine Zl ?_; intro bn hnil; (try simp (disch := omega) only [go_sem, zz1, zz2] at hnil); dsimp only [putT, List.set_cons_succ, List.set_cons_zero])
              exact L_next ⟨(k + 1, true), by simp; omega, ⟨by simp; omega, by simp; omega, by rw [hany]; simp⟩, (by exact weak_mk wkD wkH wkN wkM (by omega))⟩
            · have zz1 := rws_get hde
              have zz2 := rws_get hz
              have zz3 := hze
              repeat' first
                | refine Z3 ?_
                | refine Zx ?_
                | (refine Ze ?_; clear hK K)
                | refine W_reg fun K hK => ?_
                | refine W_drwR rfl mixed (by decide +kernel) fun K hK => ?_
                | refine W_drw mixed (by decide +kernel) fun K hK => ?_
                | (refine Zb ?_ ?_ <;> intro hb <;> first | (simp (disch := omega) only [go_sem, zz1, zz2, zz3] at hb; done) | (simp (disch := omega) only [go_sem, zz1, zz2, zz3] at hb; try omega) | try omega)
                | (refine Zl ?_; intro bn hnil; (try simp (disch := omega) only [go_sem, zz1, zz2, zz3] at hnil); dsimp only [putT, List.set_cons_succ, List.set_cons_zero])
              exact L_next ⟨(k + 1, false), by simp; omega, ⟨by simp; omega, by simp; omega, by rw [hany]; simp [hze]⟩, (by exact weak_mk wkD wkH wkN wkM (by omega))⟩
        · rw [hcut k hk z2] at z3
          subst z3
          have hei : e.iD = x.iD := by rw [← hxe]
          rw [← hei] at c4
          have zz1 := rws_get hde
          repeat' first
            | refine Z1 ?_
            | refine Zx ?_
            | refine Zfc c4 ?_
            | (refine Ze ?_; clear hK K)
            | refine W_reg fun K hK => ?_
            | refine W_drwR rfl mixed (by decide +kernel) fun K hK => ?_
            | refine W_drw mixed (by decide +kernel) fun K hK => ?_
            | (refine Zb ?_ ?_ <;> intro hb <;> first | (simp (disch := omega) only [go_sem, zz1] at hb; done) | (simp (disch := omega) only [go_sem, zz1] at hb; try omega) | try omega)
            | (refine Zl ?_; intro bn hnil; (try simp (disch := omega) only [go_sem, zz1] at hnil); dsimp only [putT, List.set_cons_succ, List.set_cons_zero])
          all_goals exact L_next ⟨(j + 1, t'), by simp; omega, ⟨by simp; omega, ct'⟩, (by exact weak_mk wkD wkH wkN wkM (by omega))⟩
    · have c5 := next_V ct (C := 14) (H := 10) (a := 12) (m := 8) (by decide)
      cases hRR : R with
      | nil =>
        rw [hRR, show nextL [] = (zDue, false) from rfl] at c5
        repeat' first
          | refine Z0 ?_
          | refine Zx ?_
          | refine Zfc c5 ?_
          | (refine Ze ?_; clear hK K)
          | refine W_reg fun K hK => ?_
          | refine W_drwR rfl mixed (by decide +kernel) fun K hK => ?_
          | refine W_drw mixed (by decide +kernel) fun K hK => ?_
          | (refine Zb ?_ ?_ <;> intro hb <;> first | (simp (disch := omega) only [go_sem] at hb; done) | (simp (disch := omega) only [go_sem] at hb; try omega) | try omega)
          | (refine Zl ?_; intro bn hnil; (try simp (disch := omega) only [go_sem] at hnil); dsimp only [putT, List.set_cons_succ, List.set_cons_zero])
        exact Zr
      | cons z R' =>
        have hz := (ct.key z (by rw [hRR]; exact List.mem_cons_self ..)).1
        rw [hRR, show nextL (z :: R') = (⟨z.iD, z.key⟩, true) from rfl] at c5
        repeat' first
          | refine Z0 ?_
          | refine Zx ?_
          | refine Zfc c5 ?_
          | (refine Ze ?_; clear hK K)
          | refine W_reg fun K hK => ?_
          | refine W_drwR rfl mixed (by decide +kernel) fun K hK => ?_
          | refine W_drw mixed (by decide +kernel) fun K hK => ?_
          | (refine Zb ?_ ?_ <;> intro hb <;> first | (simp (disch := omega) only [go_sem] at hb; done) | (simp (disch := omega) only [go_sem] at hb; try omega) | try omega)
          | (refine Zl ?_; intro bn hnil; (try simp (disch := omega) only [go_sem] at hnil); dsimp only [putT, List.set_cons_succ, List.set_cons_zero])
        exact Zr
  · repeat' first
      | refine Z0 ?_
      | refine Zx ?_
      | (refine Ze ?_; clear hK K)
      | refine W_reg fun K hK => ?_
      | refine W_drwR rfl mixed (by decide +kernel) fun K hK => ?_
      | refine W_drw mixed (by decide +kernel) fun K hK => ?_
      | (refine Zb ?_ ?_ <;> intro hb <;> first | (simp (disch := omega) only [go_sem] at hb; done) | (simp (disch := omega) only [go_sem] at hb; try omega) | try omega)
      | (refine Zl ?_; intro bn hnil; (try simp (disch := omega) only [go_sem] at hnil); dsimp only [putT, List.set_cons_succ, List.set_cons_zero])
    all_goals exact Zr

end Go.Proofs.Ytfbmbjfcgoahfaa
