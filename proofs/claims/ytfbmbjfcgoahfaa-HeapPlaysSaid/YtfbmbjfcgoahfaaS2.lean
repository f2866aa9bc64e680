/-
  slices.SortFunc at a struct: sifting down, heap sort; walked. From a template.
-/
import Derived.Test.YtfbmbjfcgoahfaaS1
namespace Go.Proofs.Ytfbmbjfcgoahfaa
open Go Go.AM
set_option maxHeartbeats 8000000
set_option maxRecDepth 8000
set_option linter.unusedSimpArgs false
set_option linter.unusedVariables false

section
variable {c : TItem → TItem → Int}

theorem sift_ok (hc : CmpOk 50 c) (d : Array TItem) (lo hi f : Nat) (hlo : lo ≤ hi) (hb : f + hi ≤ d.size) (hn : d.size ≤ 4294967296) : HCall Try.prog 64 [.ref 0 d.size 0 d.size false d.size, .int .i64 lo, .int .i64 hi, .int .i64 f, .func (.func 50) [] []] [(0, .arr 2 (rws d.toList))] 1
    (fun r h _ => r = .tuple [] ∧ h = [(0, .arr 2 (rws (Sort.siftDown (ltC c) hi f lo d).toList))]) := by
  obtain ⟨R, hR⟩ : ∃ R, Sort.siftDown (ltC c) hi f lo d = R := ⟨_, rfl⟩
  rw [hR]
  generalize hN : d.size = N at *
  refine HCall_intro (c := Try.f64.body.getD .skip) Try.func64 rfl (by decide +kernel) (W_start ?_)
  simp only [Try.f64, go_sem]
  repeat' first
    | refine Z0 ?_
    | refine Zx ?_
    | (refine Ze ?_; clear hK K)
    | refine W_reg fun K hK => ?_
    | refine W_drwR rfl mixed (by decide +kernel) fun K hK => ?_
    | refine W_drw mixed (by decide +kernel) fun K hK => ?_
    | (refine Zb ?_ ?_ <;> intro hb <;> first | (simp (disch := omega) only [go_sem] at hb; done) | (simp (disch := omega) only [go_sem] at hb; try omega) | try omega)
    | (refine Zl ?_; intro bn hnil; (try simp (disch := omega) only [go_sem] at hnil); dsimp only [putT, List.set_cons_succ, List.set_cons_zero])
  refine W_foldM (fun (q : Nat × Array TItem) => [none, none, none, none, none, none, none, none, none, none, some (.int .i64 q.1), some .junk, none, some .junk, some .junk, some .junk, some .junk, some .junk, some .junk, some .junk, some .junk, some .junk, some .junk, some .junk, some .junk, some .junk, some .junk, some .junk, some .junk, some .junk, some .junk, some .junk, some .junk, some .junk, some .junk, some .junk, some .junk, some .junk, some .junk, some .junk, some .junk, some .junk, some .junk, some .junk, some .junk, some .junk, some .junk, some .junk, some .junk, some .junk, some .junk, some .junk, some .junk, some .junk, some .junk, some .junk, some .junk, some .junk, some .junk, some .junk, some .junk, some .junk, some .junk, some .junk, some .junk, some .junk, some .junk, some .junk, some .junk, some .junk, some .junk, some .junk, some .junk, some .junk, some .junk, some .junk, some .junk, some .junk, some .junk, some .junk, some .junk, some .junk]) (fun q => [(0, .arr 2 (rws q.2.toList))]) (fun q => q.2.size = N ∧ q.1 ≤ hi ∧ Sort.siftDown (ltC c) hi f q.1 q.2 = R) (fun q => hi - q.1) (lo, d) ⟨hN, by omega, hR⟩ (by exact weak_mk wkD wkH wkN wkM (by omega)) ?_
  rintro ⟨r, d1⟩ ⟨h1, h2, h3⟩
  simp only [] at h1 h2 h3
  simp only [msk_none, msk_some, msk_nil]
  have hl1 := srl d1
  rw [h1] at hl1
  rw [Sort.siftDown] at h3
  by_cases hr : 2 * r + 1 ≥ hi
  · rw [dif_pos hr] at h3
    subst h3
    repeat' first
      | refine Z0 ?_
      | refine Zx ?_
      | (refine Ze ?_; clear hK K)
      | refine W_reg fun K hK => ?_
      | refine W_drwR rfl mixed (by decide +kernel) fun K hK => ?_
      | refine W_drw mixed (by decide +kernel) fun K hK => ?_
      | (refine Zb ?_ ?_ <;> intro hb <;> first | (simp (disch := omega) only [go_sem] at hb; done) | (simp (disch := omega) only [go_sem] at hb; try omega) | try omega)
      | (refine Zl ?_; intro bn hnil; (try simp (disch := omega) only [go_sem] at hnil); dsimp only [putT, List.set_cons_succ, List.set_cons_zero])
    exact Zrf
  rw [dif_neg hr] at h3
  have y0 := sget d1 (i := f + r) (by omega)
  have y1 := sget d1 (i := f + (2 * r + 1)) (by omega)
  have v1 : ((f : Int) + (2 * (r : Int) + 1)).toNat = f + (2 * r + 1) := by omega
  have v2 : ((f : Int) + (2 * (r : Int) + 1) + 1).toNat = f + (2 * r + 1) + 1 := by omega
  have v3 : ((f : Int) + (2 * (r : Int) + 1 + 1)).toNat = f + (2 * r + 2) := by omega
  have v4 : ((f : Int) + (r : Int)).toNat = f + r := by omega
  have v5 : 2 * (r : Int) + 1 + 1 = 2 * (r : Int) + 2 := by omega
  have v6 : ((f : Int) + (2 * (r : Int) + 2)).toNat = f + (2 * r + 2) := by omega
  by_cases hc1 : 2 * r + 1 + 1 < hi
  · have y2 := sget d1 (i := f + (2 * r + 1) + 1) (by omega)
    have y2' := sget d1 (i := f + (2 * r + 2)) (by omega)
    have c1 := hc d1[f + (2 * r + 1)]! d1[f + (2 * r + 1) + 1]!
    by_cases hlt : c d1[f + (2 * r + 1)]! d1[f + (2 * r + 1) + 1]! < 0
    · rw [if_pos (by simp [hlt]; omega)] at h3
      have c2 := hc d1[f + r]! d1[f + (2 * r + 2)]!
      by_cases hlt2 : c d1[f + r]! d1[f + (2 * r + 2)]! < 0
      · rw [if_neg (by simp [hlt2]), dif_pos (by omega)] at h3
        have e1 := sset d1 (f + r) d1[f + (2 * r + 2)]!
        have e2 := ssw d1 (f + r) (f + (2 * r + 2))
        have e3 := ssz d1 (f + r) d1[f + (2 * r + 2)]!
        rw [h1] at e3
        have x3 := sget (d1.setIfInBounds (f + r) d1[f + (2 * r + 2)]!) (i := f + (2 * r + 2)) (by simp; omega)
        simp only [enc_TItem] at e1 e2
        have zz1 := y0
        have zz2 := y1
        have zz3 := y2
        have zz4 := y2'
        have zz5 := v1
        have zz6 := v2
        have zz7 := v5
        have zz8 := v6
        have zz9 := v4
        have zz10 := hl1
        have zz11 := e1
        have zz12 := e2
        have zz13 := e3
        have zz14 := x3
        repeat' first
          | refine Z14 ?_
          | refine Zx ?_
          | refine Zc c1 ?_
          | refine Zc c2 ?_
          | (refine Ze ?_; clear hK K)
          | refine W_reg fun K hK => ?_
          | refine W_drwR rfl mixed (by decide +kernel) fun K hK => ?_
          | refine W_drw mixed (by decide +kernel) fun K hK => ?_
          | (refine Zb ?_ ?_ <;> intro hb <;> first | (simp (disch := omega) only [go_sem, zz1, zz2, zz3, zz4, zz5, zz6, zz7, zz8, zz9, zz10, zz11, zz12, zz13, zz14] at hb; done) | (simp (disch := omega) only [go_sem, zz1, zz2, zz3, zz4, zz5, zz6, zz7, zz8, zz9, zz10, zz11, zz12, zz13, zz14] at hb; try omega) | try omega)
          | (refine Zl ?_; intro bn hnil; (try simp (disch := omega) only [go_sem, zz1, zz2, zz3, zz4, zz5, zz6, zz7, zz8, zz9, zz10, zz11, zz12, zz13, zz14] at hnil); dsimp only [putT, List.set_cons_succ, List.set_cons_zero])
        all_goals exact L_next ⟨(2 * r + 2, Sort.swp d1 (f + r) (f + (2 * r + 2))), by simp only []; omega, ⟨by rw [Sort.size_swp]; exact h1, by simp only []; omega, h3⟩, (by exact weak_mk wkD wkH wkN wkM (by omega))⟩
      · rw [if_pos (by simp [hlt2])] at h3
        subst h3
        have zz1 := y0
        have zz2 := y1
        have zz3 := y2
        have zz4 := y2'
        have zz5 := v1
        have zz6 := v2
        have zz7 := v5
        have zz8 := v6
        have zz9 := v4
        have zz10 := hl1
        repeat' first
          | refine Z10 ?_
          | refine Zx ?_
          | refine Zc c1 ?_
          | refine Zc c2 ?_
          | (refine Ze ?_; clear hK K)
          | refine W_reg fun K hK => ?_
          | refine W_drwR rfl mixed (by decide +kernel) fun K hK => ?_
          | refine W_drw mixed (by decide +kernel) fun K hK => ?_
          | (refine Zb ?_ ?_ <;> intro hb <;> first | (simp (disch := omega) only [go_sem, zz1, zz2, zz3, zz4, zz5, zz6, zz7, zz8, zz9, zz10] at hb; done) | (simp (disch := omega) only [go_sem, zz1, zz2, zz3, zz4, zz5, zz6, zz7, zz8, zz9, zz10] at hb; try omega) | try omega)
          | (refine Zl ?_; intro bn hnil; (try simp (disch := omega) only [go_sem, zz1, zz2, zz3, zz4, zz5, zz6, zz7, zz8, zz9, zz10] at hnil); dsimp only [putT, List.set_cons_succ, List.set_cons_zero])
        all_goals exact Zrf
    · rw [if_neg (by simp [hlt])] at h3
      have c2 := hc d1[f + r]! d1[f + (2 * r + 1)]!
      by_cases hlt2 : c d1[f + r]! d1[f + (2 * r + 1)]! < 0
      · rw [if_neg (by simp [hlt2])] at h3
        have e1 := sset d1 (f + r) d1[f + (2 * r + 1)]!
        have e2 := ssw d1 (f + r) (f + (2 * r + 1))
        have e3 := ssz d1 (f + r) d1[f + (2 * r + 1)]!
        rw [h1] at e3
        have x3 := sget (d1.setIfInBounds (f + r) d1[f + (2 * r + 1)]!) (i := f + (2 * r + 1)) (by simp; omega)
        simp only [enc_TItem] at e1 e2
        have zz1 := y0
        have zz2 := y1
        have zz3 := y2
        have zz4 := v1
        have zz5 := v2
        have zz6 := v3
        have zz7 := v4
        have zz8 := hl1
        have zz9 := e1
        have zz10 := e2
        have zz11 := e3
        have zz12 := x3
        repeat' first
          | refine Z12 ?_
          | refine Zx ?_
          | refine Zc c1 ?_
          | refine Zc c2 ?_
          | (refine Ze ?_; clear hK K)
          | refine W_reg fun K hK => ?_
          | refine W_drwR rfl mixed (by decide +kernel) fun K hK => ?_
          | refine W_drw mixed (by decide +kernel) fun K hK => ?_
          | (refine Zb ?_ ?_ <;> intro hb <;> first | (simp (disch := omega) only [go_sem, zz1, zz2, zz3, zz4, zz5, zz6, zz7, zz8, zz9, zz10, zz11, zz12] at hb; done) | (simp (disch := omega) only [go_sem, zz1, zz2, zz3, zz4, zz5, zz6, zz7, zz8, zz9, zz10, zz11, zz12] at hb; try omega) | try omega)
          | (refine Zl ?_; intro bn hnil; (try simp (disch := omega) only [go_sem, zz1, zz2, zz3, zz4, zz5, zz6, zz7, zz8, zz9, zz10, zz11, zz12] at hnil); dsimp only [putT, List.set_cons_succ, List.set_cons_zero])
        all_goals exact L_next ⟨(2 * r + 1, Sort.swp d1 (f + r) (f + (2 * r + 1))), by simp only []; omega, ⟨by rw [Sort.size_swp]; exact h1, by simp only []; omega, h3⟩, (by exact weak_mk wkD wkH wkN wkM (by omega))⟩
      · rw [if_pos (by simp [hlt2])] at h3
        subst h3
        have zz1 := y0
        have zz2 := y1
        have zz3 := y2
        have zz4 := v1
        have zz5 := v2
        have zz6 := v3
        have zz7 := v4
        have zz8 := hl1
        repeat' first
          | refine Z8 ?_
          | refine Zx ?_
          | refine Zc c1 ?_
          | refine Zc c2 ?_
          | (refine Ze ?_; clear hK K)
          | refine W_reg fun K hK => ?_
          | refine W_drwR rfl mixed (by decide +kernel) fun K hK => ?_
          | refine W_drw mixed (by decide +kernel) fun K hK => ?_
          | (refine Zb ?_ ?_ <;> intro hb <;> first | (simp (disch := omega) only [go_sem, zz1, zz2, zz3, zz4, zz5, zz6, zz7, zz8] at hb; done) | (simp (disch := omega) only [go_sem, zz1, zz2, zz3, zz4, zz5, zz6, zz7, zz8] at hb; try omega) | try omega)
          | (refine Zl ?_; intro bn hnil; (try simp (disch := omega) only [go_sem, zz1, zz2, zz3, zz4, zz5, zz6, zz7, zz8] at hnil); dsimp only [putT, List.set_cons_succ, List.set_cons_zero])
        all_goals exact Zrf
  · rw [if_neg (by simp; omega)] at h3
    have c2 := hc d1[f + r]! d1[f + (2 * r + 1)]!
    by_cases hlt2 : c d1[f + r]! d1[f + (2 * r + 1)]! < 0
    · rw [if_neg (by simp [hlt2])] at h3
      have e1 := sset d1 (f + r) d1[f + (2 * r + 1)]!
      have e2 := ssw d1 (f + r) (f + (2 * r + 1))
      have e3 := ssz d1 (f + r) d1[f + (2 * r + 1)]!
      rw [h1] at e3
      have x3 := sget (d1.setIfInBounds (f + r) d1[f + (2 * r + 1)]!) (i := f + (2 * r + 1)) (by simp; omega)
      simp only [enc_TItem] at e1 e2
      have zz1 := y0
      have zz2 := y1
      have zz3 := v1
      have zz4 := v2
      have zz5 := v3
      have zz6 := v4
      have zz7 := hl1
      have zz8 := e1
      have zz9 := e2
      have zz10 := e3
      have zz11 := x3
      repeat' first
        | refine Z11 ?_
        | refine Zx ?_
        | refine Zc c2 ?_
        | (refine Ze ?_; clear hK K)
        | refine W_reg fun K hK => ?_
        | refine W_drwR rfl mixed (by decide +kernel) fun K hK => ?_
        | refine W_drw mixed (by decide +kernel) fun K hK => ?_
        | (refine Zb ?_ ?_ <;> intro hb <;> first | (simp (disch := omega) only [go_sem, zz1, zz2, zz3, zz4, zz5, zz6, zz7, zz8, zz9, zz10, zz11] at hb; done) | (simp (disch := omega) only [go_sem, zz1, zz2, zz3, zz4, zz5, zz6, zz7, zz8, zz9, zz10, zz11] at hb; try omega) | try omega)
        | (refine Zl ?_; intro bn hnil; (try simp (disch := omega) only [go_sem, zz1, zz2, zz3, zz4, zz5, zz6, zz7, zz8, zz9, zz10, zz11] at hnil); dsimp only [putT, List.set_cons_succ, List.set_cons_zero])
      all_goals exact L_next ⟨(2 * r + 1, Sort.swp d1 (f + r) (f + (2 * r + 1))), by simp only []; omega, ⟨by rw [Sort.size_swp]; exact h1, by simp only []; omega, h3⟩, (by exact weak_mk wkD wkH wkN wkM (by omega))⟩
    · rw [if_pos (by simp [hlt2])] at h3
      subst h3
      have zz1 := y0
      have zz2 := y1
      have zz3 := v1
      have zz4 := v2
      have zz5 := v3
      have zz6 := v4
      have zz7 := hl1
      repeat' first
        | refine Z7 ?_
        | refine Zx ?_
        | refine Zc c2 ?_
        | (refine Ze ?_; clear hK K)
        | refine W_reg fun K hK => ?_
        | refine W_drwR rfl mixed (by decide +kernel) fun K hK => ?_
        | refine W_drw mixed (by decide +kernel) fun K hK => ?_
        | (refine Zb ?_ ?_ <;> intro hb <;> first | (simp (disch := omega) only [go_sem, zz1, zz2, zz3, zz4, zz5, zz6, zz7] at hb; done) | (simp (disch := omega) only [go_sem, zz1, zz2, zz3, zz4, zz5, zz6, zz7] at hb; try omega) | try omega)
        | (refine Zl ?_; intro bn hnil; (try simp (disch := omega) only [go_sem, zz1, zz2, zz3, zz4, zz5, zz6, zz7] at hnil); dsimp only [putT, List.set_cons_succ, List.set_cons_zero])
      all_goals exact Zrf

end
end Go.Proofs.Ytfbmbjfcgoahfaa
