/-
  slices.SortFunc at a struct: the short insertion sort; walked. From a template.
-/
import Derived.Test.YtfbmbjfcgoahfaaS6
namespace Go.Proofs.Ytfbmbjfcgoahfaa
open Go Go.AM
set_option maxHeartbeats 8000000
set_option maxRecDepth 8000
set_option linter.unusedSimpArgs false
set_option linter.unusedVariables false

section
variable {c : TItem → TItem → Int}

theorem pis_ok (hc : CmpOk 50 c) (d : Array TItem) (a b : Nat) (hab : a < b) (hb : b ≤ d.size) (hn : d.size ≤ 4294967296) : HCall Try.prog 59 [.ref 0 d.size 0 d.size false d.size, .int .i64 a, .int .i64 b, .func (.func 50) [] []] [(0, .arr 2 (rws d.toList))] 1
    (fun r h _ => r = .bool (Sort.partialInsertionSort (ltC c) d a b).2 ∧ h = [(0, .arr 2 (rws (Sort.partialInsertionSort (ltC c) d a b).1.toList))]) := by
  obtain ⟨R, hR⟩ : ∃ R, Sort.partialInsertionSort (ltC c) d a b = R := ⟨_, rfl⟩
  rw [hR]
  unfold Sort.partialInsertionSort at hR
  generalize hN : d.size = N at *
  have u0 : (a : Int) + 1 = ((a + 1 : Nat) : Int) := by omega
  refine HCall_intro (c := Try.f59.body.getD .skip) Try.func59 rfl (by decide +kernel) (W_start ?_)
  simp only [Try.f59, go_sem]
  have zz1 := u0
  repeat' first
    | refine Z1 ?_
    | refine Zx ?_
    | (refine Ze ?_; clear hK K)
    | refine W_reg fun K hK => ?_
    | refine W_drwR rfl mixed (by decide +kernel) fun K hK => ?_
    | refine W_drw mixed (by decide +kernel) fun K hK => ?_
    | (refine Zb ?_ ?_ <;> intro hb <;> first | (simp (disch := omega) only [go_sem, zz1] at hb; done) | (simp (disch := omega) only [go_sem, zz1] at hb; try omega) | try omega)
    | (refine Zl ?_; intro bn hnil; (try simp (disch := omega) only [go_sem, zz1] at hnil); dsimp only [putT, List.set_cons_succ, List.set_cons_zero])
  refine W_foldM (fun (q : Nat × Nat × Array TItem) => [none, none, none, none, none, none, none, none, some .junk, some (.int .i64 q.2.1), some (.int .i64 q.1), some .junk, some .junk, none, none, some .junk, some .junk, some .junk, some .junk, some .junk, some .junk, some .junk, some .junk, some .junk, some .junk, some .junk, some .junk, some .junk, some .junk, some .junk, some .junk, some .junk, some .junk, some .junk, some .junk, some .junk, some .junk, some .junk, some .junk, some .junk, some .junk, some .junk, some .junk, some .junk, some .junk, some .junk, some .junk, some .junk, some .junk, some .junk, some .junk, some .junk, some .junk, some .junk, some .junk, some .junk, some .junk, some .junk, some .junk, some .junk, some .junk, some .junk, some .junk, some .junk, some .junk, some .junk, some .junk, some .junk, some .junk, some .junk, some .junk, some .junk, some .junk, some .junk, some .junk, some .junk, some .junk, some .junk, some .junk, some .junk, some .junk, some .junk, some .junk, some .junk, some .junk, some .junk, some .junk, some .junk, some .junk, some .junk, some .junk, some .junk, some .junk, some .junk, some .junk, some .junk, some .junk, some .junk, some .junk, some .junk, some .junk, some .junk, some .junk, some .junk, some .junk, some .junk, some .junk, some .junk, some .junk, some .junk, some .junk, some .junk, some .junk, some .junk, some .junk, some .junk, some .junk, some .junk, some .junk, some .junk, some .junk, some .junk, some .junk, some .junk, some .junk, some .junk, some .junk, some .junk, some .junk, some .junk, some .junk, some .junk, some .junk, some .junk, some .junk, some .junk, some .junk, some .junk, some .junk, some .junk, some .junk]) (fun q => [(0, .arr 2 (rws q.2.2.toList))])
    (fun q => q.1 ≤ 5 ∧ a + 1 ≤ q.2.1 ∧ q.2.1 ≤ b ∧ q.2.2.size = N ∧ Sort.partialIns (ltC c) a b (5 - q.1) q.2.1 q.2.2 = R) (fun q => 5 - q.1) (0, a + 1, d) ⟨by simp, by simp, by simp only []; omega, hN, hR⟩ (by exact weak_mk wkD wkH wkN wkM (by omega)) ?_
  clear hR hN
  rintro ⟨t, i, d1⟩ ⟨h1, h2, h3, h4, h5⟩
  simp only [] at h1 h2 h3 h4 h5
  simp only [msk_none, msk_some, msk_nil]
  have hl1 := srl d1
  rw [h4] at hl1
  by_cases ht : t < 5
  · obtain ⟨s, hs⟩ : ∃ s, 5 - t = s + 1 := ⟨4 - t, by omega⟩
    rw [hs, Sort.partialIns_succ] at h5
    obtain ⟨i2, hi2⟩ : ∃ i2, Sort.scanSorted (ltC c) d1 b i = i2 := ⟨_, rfl⟩
    rw [hi2] at h5
    repeat' first
      | refine Z0 ?_
      | refine Zx ?_
      | (refine Ze ?_; clear hK K)
      | refine W_reg fun K hK => ?_
      | refine W_drwR rfl mixed (by decide +kernel) fun K hK => ?_
      | refine W_drw mixed (by decide +kernel) fun K hK => ?_
      | (refine Zb ?_ ?_ <;> intro hb <;> first | (simp (disch := omega) only [go_sem] at hb; done) | (simp (disch := omega) only [go_sem] at hb; try omega) | try omega)
      | (refine Zl ?_; intro bn hnil; (try simp (disch := omega) only [go_sem] at hnil); dsimp only [putT, List.set_cons_succ, List.set_cons_zero])
    refine W_foldJ (fun (i' : Nat) => [none, none, none, none, none, none, none, none, none, some (.int .i64 i'), none, none, none, none, none, none, none, none, none, some .junk, some .junk, some .junk, some .junk, some .junk, some .junk, some .junk, some .junk, some .junk, some .junk, some .junk, some .junk, some .junk, some .junk, some .junk, some .junk, some .junk, some .junk, some .junk, some .junk]) (fun _ => [(0, .arr 2 (rws d1.toList))]) (fun i' => a + 1 ≤ i' ∧ i' ≤ b ∧ Sort.scanSorted (ltC c) d1 b i' = i2) (fun i' => b - i')
      (fun (_ : Unit) => [none, none, none, none, none, none, none, none, none, some (.int .i64 i2), none, none, none, none, none, none, none, none, none, some .junk, some .junk, some .junk, some .junk, some .junk, some .junk, some .junk, some .junk, some .junk, some .junk, some .junk, some .junk, some .junk, some .junk, some .junk, some .junk, some .junk, some .junk, some .junk, some .junk]) (fun _ => [(0, .arr 2 (rws d1.toList))]) (fun _ => a + 1 ≤ i2 ∧ i2 ≤ b) i ⟨h2, h3, hi2⟩ (by exact weak_mk wkD wkH wkN wkM (by omega)) ?_ ?_
    rotate_left
    · rintro i' ⟨k1, k2, k3⟩
      simp only [msk_none, msk_some, msk_nil]
      have u1 : (i' : Int) - 1 = ((i' - 1 : Nat) : Int) := by omega
      rw [Sort.scanSorted] at k3
      by_cases hs : i' < b ∧ ¬ c d1[i']! d1[i' - 1]! < 0
      · have y1 := sget d1 (i := i') (by omega)
        have y2 := sget d1 (i := i' - 1) (by omega)
        have c1 := hc d1[i']! d1[i' - 1]!
        have hs2 := hs.2
        rw [if_pos (by simp [hs.1, hs.2])] at k3
        have zz1 := y1
        have zz2 := y2
        have zz3 := hl1
        have zz4 := u1
        repeat' first
          | refine Z4 ?_
          | refine Zc c1 ?_
          | (refine Ze ?_; clear hK K)
          | refine W_reg fun K hK => ?_
          | refine W_drwR rfl mixed (by decide +kernel) fun K hK => ?_
          | refine W_drw mixed (by decide +kernel) fun K hK => ?_
          | (refine Zb ?_ ?_ <;> intro hb <;> first | (simp (disch := omega) only [go_sem, zz1, zz2, zz3, zz4] at hb; done) | (simp (disch := omega) only [go_sem, zz1, zz2, zz3, zz4] at hb; try omega) | try omega)
          | (refine Zl ?_; intro bn hnil; (try simp (disch := omega) only [go_sem, zz1, zz2, zz3, zz4] at hnil); dsimp only [putT, List.set_cons_succ, List.set_cons_zero])
        all_goals exact F_next ⟨i' + 1, by omega, ⟨by omega, by omega, k3⟩, (by exact weak_mk wkD wkH wkN wkM (by omega))⟩
      · rw [if_neg (by simpa using hs)] at k3
        subst k3
        by_cases hj : i' < b
        · have y1 := sget d1 (i := i') (by omega)
          have y2 := sget d1 (i := i' - 1) (by omega)
          have c1 := hc d1[i']! d1[i' - 1]!
          have hs2 : c d1[i']! d1[i' - 1]! < 0 := by
            rcases Int.lt_or_le (c d1[i']! d1[i' - 1]!) 0 with h | h
            · exact h
            · exact absurd ⟨hj, by omega⟩ hs
          have zz1 := y1
          have zz2 := y2
          have zz3 := hl1
          have zz4 := u1
          repeat' first
            | refine Z4 ?_
            | refine Zc c1 ?_
            | (refine Ze ?_; clear hK K)
            | refine W_reg fun K hK => ?_
            | refine W_drwR rfl mixed (by decide +kernel) fun K hK => ?_
            | refine W_drw mixed (by decide +kernel) fun K hK => ?_
            | (refine Zb ?_ ?_ <;> intro hb <;> first | (simp (disch := omega) only [go_sem, zz1, zz2, zz3, zz4] at hb; done) | (simp (disch := omega) only [go_sem, zz1, zz2, zz3, zz4] at hb; try omega) | try omega)
            | (refine Zl ?_; intro bn hnil; (try simp (disch := omega) only [go_sem, zz1, zz2, zz3, zz4] at hnil); dsimp only [putT, List.set_cons_succ, List.set_cons_zero])
          all_goals exact FJ_exit () ⟨k1, k2⟩ (by exact weak_mk wkD wkH wkN wkM (by omega))
        · repeat' first
            | refine Z0 ?_
            | (refine Ze ?_; clear hK K)
            | refine W_reg fun K hK => ?_
            | refine W_drwR rfl mixed (by decide +kernel) fun K hK => ?_
            | refine W_drw mixed (by decide +kernel) fun K hK => ?_
            | (refine Zb ?_ ?_ <;> intro hb <;> first | (simp (disch := omega) only [go_sem] at hb; done) | (simp (disch := omega) only [go_sem] at hb; try omega) | try omega)
            | (refine Zl ?_; intro bn hnil; (try simp (disch := omega) only [go_sem] at hnil); dsimp only [putT, List.set_cons_succ, List.set_cons_zero])
          all_goals exact FJ_exit () ⟨k1, k2⟩ (by exact weak_mk wkD wkH wkN wkM (by omega))
    rintro ⟨⟩ ⟨hk1, hk2⟩
    simp only [msk_none, msk_some, msk_nil]
    by_cases hib : i2 = b
    · rw [if_pos hib] at h5
      subst h5
      repeat' first
        | refine Z0 ?_
        | refine Zx ?_
        | (refine Ze ?_; clear hK K)
        | refine W_reg fun K hK => ?_
        | refine W_drwR rfl mixed (by decide +kernel) fun K hK => ?_
        | refine W_drw mixed (by decide +kernel) fun K hK => ?_
        | (refine Zb ?_ ?_ <;> intro hb <;> first | (simp (disch := omega) only [go_sem] at hb; done) | (simp (disch := omega) only [go_sem] at hb; try omega) | try omega)
        | (refine Zl ?_; intro bn hnil; (try simp (disch := omega) only [go_sem] at hnil); dsimp only [putT, List.set_cons_succ, List.set_cons_zero])
      all_goals exact Zrf
    · rw [if_neg hib] at h5
      by_cases h50 : b - a < 50
      · rw [if_pos h50] at h5
        subst h5
        repeat' first
          | refine Z0 ?_
          | refine Zx ?_
          | (refine Ze ?_; clear hK K)
          | refine W_reg fun K hK => ?_
          | refine W_drwR rfl mixed (by decide +kernel) fun K hK => ?_
          | refine W_drw mixed (by decide +kernel) fun K hK => ?_
          | (refine Zb ?_ ?_ <;> intro hb <;> first | (simp (disch := omega) only [go_sem] at hb; done) | (simp (disch := omega) only [go_sem] at hb; try omega) | try omega)
          | (refine Zl ?_; intro bn hnil; (try simp (disch := omega) only [go_sem] at hnil); dsimp only [putT, List.set_cons_succ, List.set_cons_zero])
        all_goals exact Zrf
      · rw [if_neg h50] at h5
        have x1 := sget d1 (i := i2) (by omega)
        have x2 := sget d1 (i := i2 - 1) (by omega)
        have e1 := sset d1 i2 d1[i2 - 1]!
        have e2 := ssw d1 i2 (i2 - 1)
        have e3 := ssz d1 i2 d1[i2 - 1]!
        rw [h4] at e3
        have x3 := sget (d1.setIfInBounds i2 d1[i2 - 1]!) (i := i2 - 1) (by simp; omega)
        have u1 : (i2 : Int) - 1 = ((i2 - 1 : Nat) : Int) := by omega
        simp only [enc_TItem] at e1 e2
        have zz1 := x1
        have zz2 := x2
        have zz3 := e1
        have zz4 := e2
        have zz5 := e3
        have zz6 := x3
        have zz7 := hl1
        have zz8 := u1
        repeat' first
          | refine Z8 ?_
          | refine Zx ?_
          | (refine Ze ?_; clear hK K)
          | refine W_regNe 12 (by decide) fun K hK => ?_
          | refine W_drwRNe 12 (by decide) rfl mixed (by decide +kernel) fun K hK => ?_
          | refine W_drwNe 12 (by decide) mixed (by decide +kernel) fun K hK => ?_
          | (refine Zb ?_ ?_ <;> intro hb <;> first | (simp (disch := omega) only [go_sem, zz1, zz2, zz3, zz4, zz5, zz6, zz7, zz8] at hb; done) | (simp (disch := omega) only [go_sem, zz1, zz2, zz3, zz4, zz5, zz6, zz7, zz8] at hb; try omega) | try omega)
          | (refine Zl ?_; intro bn hnil; (try simp (disch := omega) only [go_sem, zz1, zz2, zz3, zz4, zz5, zz6, zz7, zz8] at hnil); dsimp only [putT, List.set_cons_succ, List.set_cons_zero])
        clear x1 x2 x3 e1 e2 e3 hl1
        obtain ⟨d2, hd2⟩ : ∃ d2, Sort.swp d1 i2 (i2 - 1) = d2 := ⟨_, rfl⟩
        have h42 : d2.size = N := by rw [← hd2, Sort.size_swp]; exact h4
        rw [hd2] at h5 ⊢
        obtain ⟨D, hD⟩ : ∃ D, Sort.fixDown (ltC c) a i2 d2 = D := ⟨_, rfl⟩
        rw [hD] at h5
        refine W_cutH (fun (_ : Unit) => [none, none, none, none, none, none, none, none, none, none, none, some .junk, none, none, none, none, none, none, none, none, none, none, none, none, none, none, none, none, none, none, none, none, none, none, none, none, none, none, none, none, none, none, none, none, none, none, none, none, none, none, none, none, none, none, none, none, none, none, none, none, none, none, some .junk, some .junk, some .junk, some .junk, some .junk, some .junk, some .junk, some .junk, some .junk, some .junk, some .junk, some .junk, some .junk, some .junk, some .junk, some .junk, some .junk, some .junk, some .junk, some .junk, some .junk, some .junk, some .junk, some .junk, some .junk, some .junk, some .junk, some .junk, some .junk, some .junk, some .junk, some .junk, some .junk, some .junk, some .junk, some .junk, some .junk, some .junk, some .junk]) (fun _ => [(0, .arr 2 (rws D.toList))]) (fun _ => D.size = N) ?_ ?_
        · unfold Sort.fixDown at hD
          by_cases hw : i2 - a ≥ 2
          · rw [if_pos hw] at hD
            have zz1 := u1
            repeat' first
              | refine Z1 ?_
              | refine Zx ?_
              | (refine Ze ?_; clear hK K)
              | refine W_reg fun K hK => ?_
              | refine W_drwR rfl mixed (by decide +kernel) fun K hK => ?_
              | refine W_drw mixed (by decide +kernel) fun K hK => ?_
              | (refine Zb ?_ ?_ <;> intro hb <;> first | (simp (disch := omega) only [go_sem, zz1] at hb; done) | (simp (disch := omega) only [go_sem, zz1] at hb; try omega) | try omega)
              | (refine Zl ?_; intro bn hnil; (try simp (disch := omega) only [go_sem, zz1] at hnil); dsimp only [putT, List.set_cons_succ, List.set_cons_zero])
            refine W_foldJ (fun (q : Nat × Array TItem) => [none, none, none, none, none, none, none, none, none, none, none, some (.int .i64 q.1), none, none, none, none, none, none, none, none, none, none, none, none, none, none, none, none, none, none, none, none, none, none, none, none, none, none, none, none, none, none, none, none, none, none, none, none, none, none, none, none, none, none, none, none, none, none, none, none, none, none, none, none, none, none, none, none, some .junk, some .junk, some .junk, some .junk, some .junk, some .junk, some .junk, some .junk, some .junk, some .junk, some .junk, some .junk, some .junk, some .junk, some .junk, some .junk, some .junk, some .junk, some .junk, some .junk, some .junk, some .junk, some .junk, some .junk, some .junk, some .junk, some .junk, some .junk, some .junk, some .junk, some .junk, some .junk, some .junk]) (fun q => [(0, .arr 2 (rws q.2.toList))]) (fun q => q.1 < i2 ∧ q.2.size = N ∧ Sort.shiftDown (ltC c) q.1 q.2 = D) (fun q => q.1)
              (fun (_ : Unit) => [none, none, none, none, none, none, none, none, none, none, none, some .junk, none, none, none, none, none, none, none, none, none, none, none, none, none, none, none, none, none, none, none, none, none, none, none, none, none, none, none, none, none, none, none, none, none, none, none, none, none, none, none, none, none, none, none, none, none, none, none, none, none, none, none, none, none, none, none, none, some .junk, some .junk, some .junk, some .junk, some .junk, some .junk, some .junk, some .junk, some .junk, some .junk, some .junk, some .junk, some .junk, some .junk, some .junk, some .junk, some .junk, some .junk, some .junk, some .junk, some .junk, some .junk, some .junk, some .junk, some .junk, some .junk, some .junk, some .junk, some .junk, some .junk, some .junk, some .junk, some .junk]) (fun _ => [(0, .arr 2 (rws D.toList))]) (fun _ => D.size = N) (i2 - 1, d2) ⟨by simp only []; omega, h42, hD⟩ (by exact weak_mk wkD wkH wkN wkM (by omega)) ?_ ?_
            rotate_left
            · rintro ⟨j, d3⟩ ⟨k1, k2, k3⟩
              simp only [] at k1 k2 k3
              simp only [msk_none, msk_some, msk_nil]
              have hl3 := srl d3
              rw [k2] at hl3
              cases j with
              | zero =>
                have k3 : d3 = D := k3
                subst k3
                repeat' first
                  | refine Z0 ?_
                  | (refine Ze ?_; clear hK K)
                  | refine W_reg fun K hK => ?_
                  | refine W_drwR rfl mixed (by decide +kernel) fun K hK => ?_
                  | refine W_drw mixed (by decide +kernel) fun K hK => ?_
                  | (refine Zb ?_ ?_ <;> intro hb <;> first | (simp (disch := omega) only [go_sem] at hb; done) | (simp (disch := omega) only [go_sem] at hb; try omega) | try omega)
                  | (refine Zl ?_; intro bn hnil; (try simp (disch := omega) only [go_sem] at hnil); dsimp only [putT, List.set_cons_succ, List.set_cons_zero])
                all_goals exact FJ_exit () k2 (by exact weak_mk wkD wkH wkN wkM (by omega))
              | succ m =>
                have y1 := sget d3 (i := m + 1) (by omega)
                have y2 := sget d3 (i := m) (by omega)
                have c1 := hc d3[m + 1]! d3[m]!
                have v1 : ((m + 1 : Nat) : Int) - 1 = (m : Int) := by omega
                rw [Sort.shiftDown] at k3
                by_cases hlt : c d3[m + 1]! d3[m]! < 0
                · rw [if_neg (by simp [hlt])] at k3
                  have e1 := sset d3 (m + 1) d3[m]!
                  have e2 := ssw d3 (m + 1) m
                  have e3 := ssz d3 (m + 1) d3[m]!
                  rw [k2] at e3
                  have x3 := sget (d3.setIfInBounds (m + 1) d3[m]!) (i := m) (by simp; omega)
                  simp only [enc_TItem] at e1 e2
                  have zz1 := y1
                  have zz2 := y2
                  have zz3 := hl3
                  have zz4 := v1
                  have zz5 := e1
                  have zz6 := e2
                  have zz7 := e3
                  have zz8 := x3
                  repeat' first
                    | refine Z8 ?_
                    | refine Zc c1 ?_
                    | (refine Ze ?_; clear hK K)
                    | refine W_reg fun K hK => ?_
                    | refine W_drwR rfl mixed (by decide +kernel) fun K hK => ?_
                    | refine W_drw mixed (by decide +kernel) fun K hK => ?_
                    | (refine Zb ?_ ?_ <;> intro hb <;> first | (simp (disch := omega) only [go_sem, zz1, zz2, zz3, zz4, zz5, zz6, zz7, zz8] at hb; done) | (simp (disch := omega) only [go_sem, zz1, zz2, zz3, zz4, zz5, zz6, zz7, zz8] at hb; try omega) | try omega)
                    | (refine Zl ?_; intro bn hnil; (try simp (disch := omega) only [go_sem, zz1, zz2, zz3, zz4, zz5, zz6, zz7, zz8] at hnil); dsimp only [putT, List.set_cons_succ, List.set_cons_zero])
                  all_goals exact F_next ⟨(m, Sort.swp d3 (m + 1) m), by simp, ⟨by simp only []; omega, by rw [Sort.size_swp]; exact k2, k3⟩, (by exact weak_mk wkD wkH wkN wkM (by omega))⟩
                · rw [if_pos (by simp [hlt])] at k3
                  subst k3
                  have zz1 := y1
                  have zz2 := y2
                  have zz3 := hl3
                  have zz4 := v1
                  repeat' first
                    | refine Z4 ?_
                    | refine Zc c1 ?_
                    | (refine Ze ?_; clear hK K)
                    | refine W_reg fun K hK => ?_
                    | refine W_drwR rfl mixed (by decide +kernel) fun K hK => ?_
                    | refine W_drw mixed (by decide +kernel) fun K hK => ?_
                    | (refine Zb ?_ ?_ <;> intro hb <;> first | (simp (disch := omega) only [go_sem, zz1, zz2, zz3, zz4] at hb; done) | (simp (disch := omega) only [go_sem, zz1, zz2, zz3, zz4] at hb; try omega) | try omega)
                    | (refine Zl ?_; intro bn hnil; (try simp (disch := omega) only [go_sem, zz1, zz2, zz3, zz4] at hnil); dsimp only [putT, List.set_cons_succ, List.set_cons_zero])
                  all_goals exact FJ_exit () k2 (by exact weak_mk wkD wkH wkN wkM (by omega))
            rintro ⟨⟩ hDs
            simp only [msk_none, msk_some, msk_nil]
            repeat' first
              | refine Z0 ?_
              | refine Zx ?_
              | (refine Ze ?_; clear hK K)
              | refine W_reg fun K hK => ?_
              | refine W_drwR rfl mixed (by decide +kernel) fun K hK => ?_
              | refine W_drw mixed (by decide +kernel) fun K hK => ?_
              | (refine Zb ?_ ?_ <;> intro hb <;> first | (simp (disch := omega) only [go_sem] at hb; done) | (simp (disch := omega) only [go_sem] at hb; try omega) | try omega)
              | (refine Zl ?_; intro bn hnil; (try simp (disch := omega) only [go_sem] at hnil); dsimp only [putT, List.set_cons_succ, List.set_cons_zero])
            all_goals exact N_cut () hDs (by exact weak_mk wkD wkH wkN wkM (by omega))
          · rw [if_neg hw] at hD
            subst hD
            repeat' first
              | refine Z0 ?_
              | refine Zx ?_
              | (refine Ze ?_; clear hK K)
              | refine W_reg fun K hK => ?_
              | refine W_drwR rfl mixed (by decide +kernel) fun K hK => ?_
              | refine W_drw mixed (by decide +kernel) fun K hK => ?_
              | (refine Zb ?_ ?_ <;> intro hb <;> first | (simp (disch := omega) only [go_sem] at hb; done) | (simp (disch := omega) only [go_sem] at hb; try omega) | try omega)
              | (refine Zl ?_; intro bn hnil; (try simp (disch := omega) only [go_sem] at hnil); dsimp only [putT, List.set_cons_succ, List.set_cons_zero])
            all_goals exact N_cut () h42 (by exact weak_mk wkD wkH wkN wkM (by omega))
        rintro ⟨⟩ hDs
        simp only [msk_none, msk_some, msk_nil]
        obtain ⟨U, hU⟩ : ∃ U, Sort.fixUp (ltC c) b i2 D = U := ⟨_, rfl⟩
        rw [hU] at h5
        have w1 : (i2 : Int) + 1 = ((i2 + 1 : Nat) : Int) := by omega
        have w5 : (t : Int) + 1 = ((t + 1 : Nat) : Int) := by omega
        have w6 : 5 - (t + 1) = s := by omega
        clear hD hd2
        unfold Sort.fixUp at hU
        by_cases hw : b - i2 ≥ 2
        · rw [if_pos hw] at hU
          have zz1 := w1
          repeat' first
            | refine Z1 ?_
            | refine Zx ?_
            | (refine Ze ?_; clear hK K)
            | refine W_reg fun K hK => ?_
            | refine W_drwR rfl mixed (by decide +kernel) fun K hK => ?_
            | refine W_drw mixed (by decide +kernel) fun K hK => ?_
            | (refine Zb ?_ ?_ <;> intro hb <;> first | (simp (disch := omega) only [go_sem, zz1] at hb; done) | (simp (disch := omega) only [go_sem, zz1] at hb; try omega) | try omega)
            | (refine Zl ?_; intro bn hnil; (try simp (disch := omega) only [go_sem, zz1] at hnil); dsimp only [putT, List.set_cons_succ, List.set_cons_zero])
          refine W_foldJ (fun (q : Nat × Array TItem) => [none, none, none, none, none, none, none, none, none, none, none, none, some (.int .i64 q.1), none, none, none, none, none, none, none, none, none, none, none, none, none, none, none, none, none, none, none, none, none, none, none, none, none, none, none, none, none, none, none, none, none, none, none, none, none, none, none, none, none, none, none, none, none, none, none, none, none, none, none, none, none, none, none, none, none, none, none, none, none, none, none, none, none, none, none, none, none, none, none, none, none, none, none, none, none, none, none, none, none, none, none, none, none, none, none, none, none, none, none, none, none, none, some .junk, some .junk, some .junk, some .junk, some .junk, some .junk, some .junk, some .junk, some .junk, some .junk, some .junk, some .junk, some .junk, some .junk, some .junk, some .junk, some .junk, some .junk, some .junk, some .junk, some .junk, some .junk, some .junk, some .junk, some .junk, some .junk, some .junk, some .junk, some .junk, some .junk, some .junk, some .junk, some .junk, some .junk]) (fun q => [(0, .arr 2 (rws q.2.toList))]) (fun q => i2 < q.1 ∧ q.1 ≤ b ∧ q.2.size = N ∧ Sort.shiftUp (ltC c) b q.1 q.2 = U) (fun q => b - q.1)
            (fun (_ : Unit) => [none, none, none, none, none, none, none, none, none, none, none, none, some .junk, none, none, none, none, none, none, none, none, none, none, none, none, none, none, none, none, none, none, none, none, none, none, none, none, none, none, none, none, none, none, none, none, none, none, none, none, none, none, none, none, none, none, none, none, none, none, none, none, none, none, none, none, none, none, none, none, none, none, none, none, none, none, none, none, none, none, none, none, none, none, none, none, none, none, none, none, none, none, none, none, none, none, none, none, none, none, none, none, none, none, none, none, none, none, some .junk, some .junk, some .junk, some .junk, some .junk, some .junk, some .junk, some .junk, some .junk, some .junk, some .junk, some .junk, some .junk, some .junk, some .junk, some .junk, some .junk, some .junk, some .junk, some .junk, some .junk, some .junk, some .junk, some .junk, some .junk, some .junk, some .junk, some .junk, some .junk, some .junk, some .junk, some .junk, some .junk, some .junk]) (fun _ => [(0, .arr 2 (rws U.toList))]) (fun _ => U.size = N) (i2 + 1, D) ⟨by simp only []; omega, by simp only []; omega, hDs, hU⟩ (by exact weak_mk wkD wkH wkN wkM (by omega)) ?_ ?_
          rotate_left
          · rintro ⟨j, d3⟩ ⟨k1, k4, k2, k3⟩
            simp only [] at k1 k2 k3 k4
            simp only [msk_none, msk_some, msk_nil]
            have hl3 := srl d3
            rw [k2] at hl3
            rw [Sort.shiftUp] at k3
            by_cases hjb : j < b
            · rw [if_pos hjb] at k3
              have y1 := sget d3 (i := j) (by omega)
              have y2 := sget d3 (i := j - 1) (by omega)
              have c1 := hc d3[j]! d3[j - 1]!
              have v1 : (j : Int) - 1 = ((j - 1 : Nat) : Int) := by omega
              by_cases hlt : c d3[j]! d3[j - 1]! < 0
              · rw [if_neg (by simp [hlt])] at k3
                have e1 := sset d3 j d3[j - 1]!
                have e2 := ssw d3 j (j - 1)
                have e3 := ssz d3 j d3[j - 1]!
                rw [k2] at e3
                have x3 := sget (d3.setIfInBounds j d3[j - 1]!) (i := j - 1) (by simp; omega)
                simp only [enc_TItem] at e1 e2
                have zz1 := y1
                have zz2 := y2
                have zz3 := hl3
                have zz4 := v1
                have zz5 := e1
                have zz6 := e2
                have zz7 := e3
                have zz8 := x3
                repeat' first
                  | refine Z8 ?_
                  | refine Zc c1 ?_
                  | (refine Ze ?_; clear hK K)
                  | refine W_reg fun K hK => ?_
                  | refine W_drwR rfl mixed (by decide +kernel) fun K hK => ?_
                  | refine W_drw mixed (by decide +kernel) fun K hK => ?_
                  | (refine Zb ?_ ?_ <;> intro hb <;> first | (simp (disch := omega) only [go_sem, zz1, zz2, zz3, zz4, zz5, zz6, zz7, zz8] at hb; done) | (simp (disch := omega) only [go_sem, zz1, zz2, zz3, zz4, zz5, zz6, zz7, zz8] at hb; try omega) | try omega)
                  | (refine Zl ?_; intro bn hnil; (try simp (disch := omega) only [go_sem, zz1, zz2, zz3, zz4, zz5, zz6, zz7, zz8] at hnil); dsimp only [putT, List.set_cons_succ, List.set_cons_zero])
                all_goals exact F_next ⟨(j + 1, Sort.swp d3 j (j - 1)), by simp only []; omega, ⟨by simp only []; omega, by simp only []; omega, by rw [Sort.size_swp]; exact k2, k3⟩, (by exact weak_mk wkD wkH wkN wkM (by omega))⟩
              · rw [if_pos (by simp [hlt])] at k3
                subst k3
                have zz1 := y1
                have zz2 := y2
                have zz3 := hl3
                have zz4 := v1
                repeat' first
                  | refine Z4 ?_
                  | refine Zc c1 ?_
                  | (refine Ze ?_; clear hK K)
                  | refine W_reg fun K hK => ?_
                  | refine W_drwR rfl mixed (by decide +kernel) fun K hK => ?_
                  | refine W_drw mixed (by decide +kernel) fun K hK => ?_
                  | (refine Zb ?_ ?_ <;> intro hb <;> first | (simp (disch := omega) only [go_sem, zz1, zz2, zz3, zz4] at hb; done) | (simp (disch := omega) only [go_sem, zz1, zz2, zz3, zz4] at hb; try omega) | try omega)
                  | (refine Zl ?_; intro bn hnil; (try simp (disch := omega) only [go_sem, zz1, zz2, zz3, zz4] at hnil); dsimp only [putT, List.set_cons_succ, List.set_cons_zero])
                all_goals exact FJ_exit () k2 (by exact weak_mk wkD wkH wkN wkM (by omega))
            · rw [if_neg hjb] at k3
              subst k3
              repeat' first
                | refine Z0 ?_
                | (refine Ze ?_; clear hK K)
                | refine W_reg fun K hK => ?_
                | refine W_drwR rfl mixed (by decide +kernel) fun K hK => ?_
                | refine W_drw mixed (by decide +kernel) fun K hK => ?_
                | (refine Zb ?_ ?_ <;> intro hb <;> first | (simp (disch := omega) only [go_sem] at hb; done) | (simp (disch := omega) only [go_sem] at hb; try omega) | try omega)
                | (refine Zl ?_; intro bn hnil; (try simp (disch := omega) only [go_sem] at hnil); dsimp only [putT, List.set_cons_succ, List.set_cons_zero])
              all_goals exact FJ_exit () k2 (by exact weak_mk wkD wkH wkN wkM (by omega))
          rintro ⟨⟩ hUs
          simp only [msk_none, msk_some, msk_nil]
          have zz1 := w5
          repeat' first
            | refine Z1 ?_
            | refine Zx ?_
            | (refine Ze ?_; clear hK K)
            | refine W_reg fun K hK => ?_
            | refine W_drwR rfl mixed (by decide +kernel) fun K hK => ?_
            | refine W_drw mixed (by decide +kernel) fun K hK => ?_
            | (refine Zb ?_ ?_ <;> intro hb <;> first | (simp (disch := omega) only [go_sem, zz1] at hb; done) | (simp (disch := omega) only [go_sem, zz1] at hb; try omega) | try omega)
            | (refine Zl ?_; intro bn hnil; (try simp (disch := omega) only [go_sem, zz1] at hnil); dsimp only [putT, List.set_cons_succ, List.set_cons_zero])
          all_goals exact L_next ⟨(t + 1, i2, U), by simp only []; omega, ⟨by simp only []; omega, hk1, hk2, hUs, by rw [← h5]; simp only [w6]⟩, (by exact weak_mk wkD wkH wkN wkM (by omega))⟩
        · rw [if_neg hw] at hU
          subst hU
          have zz1 := w5
          repeat' first
            | refine Z1 ?_
            | refine Zx ?_
            | (refine Ze ?_; clear hK K)
            | refine W_reg fun K hK => ?_
            | refine W_drwR rfl mixed (by decide +kernel) fun K hK => ?_
            | refine W_drw mixed (by decide +kernel) fun K hK => ?_
            | (refine Zb ?_ ?_ <;> intro hb <;> first | (simp (disch := omega) only [go_sem, zz1] at hb; done) | (simp (disch := omega) only [go_sem, zz1] at hb; try omega) | try omega)
            | (refine Zl ?_; intro bn hnil; (try simp (disch := omega) only [go_sem, zz1] at hnil); dsimp only [putT, List.set_cons_succ, List.set_cons_zero])
          all_goals exact L_next ⟨(t + 1, i2, D), by simp only []; omega, ⟨by simp only []; omega, hk1, hk2, hDs, by rw [← h5]; simp only [w6]⟩, (by exact weak_mk wkD wkH wkN wkM (by omega))⟩
  · have h0 : t = 5 := by omega
    subst h0
    have h5 : (d1, false) = R := h5
    subst h5
    repeat' first
      | refine Z0 ?_
      | refine Zx ?_
      | (refine Ze ?_; clear hK K)
      | refine W_reg fun K hK => ?_
      | refine W_drwR rfl mixed (by decide +kernel) fun K hK => ?_
      | refine W_drw mixed (by decide +kernel) fun K hK => ?_
      | (refine Zb ?_ ?_ <;> intro hb <;> first | (simp (disch := omega) only [go_sem] at hb; done) | (simp (disch := omega) only [go_sem] at hb; try omega) | try omega)
      | (refine Zl ?_; intro bn hnil; (try simp (disch := omega) only [go_sem] at hnil); dsimp only [putT, List.set_cons_succ, List.set_cons_zero])
    all_goals exact Zrf

end
end Go.Proofs.Ytfbmbjfcgoahfaa
