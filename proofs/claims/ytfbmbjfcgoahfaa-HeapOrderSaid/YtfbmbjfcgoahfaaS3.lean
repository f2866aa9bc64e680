/-
  slices.SortFunc at a struct: heap sort, turning round; walked. From a template.
-/
import Derived.Test.YtfbmbjfcgoahfaaS2
namespace Go.Proofs.Ytfbmbjfcgoahfaa
open Go Go.AM
set_option maxHeartbeats 8000000
set_option maxRecDepth 8000
set_option linter.unusedSimpArgs false
set_option linter.unusedVariables false

section
variable {c : TItem → TItem → Int}

/-- Sifting down, as a call over a frame. -/
theorem sift_F (hc : CmpOk 50 c) (d : Array TItem) (N lo hi f : Nat) (hN : d.size = N) (hlo : lo ≤ hi) (hb : f + hi ≤ N) (hn : N ≤ 4294967296) (a : Nat) : FCall Try.prog 64 [.ref a N 0 N false N, .int .i64 lo, .int .i64 hi, .int .i64 f, .func (.func 50) [] []] [(a, .arr 2 (rws d.toList))]
    (.tuple []) [(a, .arr 2 (rws (Sort.siftDown (ltC c) hi f lo d).toList))] := by
  subst hN
  exact FCall.arr (sift_ok hc d lo hi f hlo hb hn) a (by simp [lfA_leaf, lf_ref, lf_int, lf_fn]) (lfA_tup _ _ (by simp)) rfl rfl

theorem heap_ok (hc : CmpOk 50 c) (d : Array TItem) (a b : Nat) (hab : a < b) (hb : b ≤ d.size) (hn : d.size ≤ 4294967296) : HCall Try.prog 55 [.ref 0 d.size 0 d.size false d.size, .int .i64 a, .int .i64 b, .func (.func 50) [] []] [(0, .arr 2 (rws d.toList))] 1
    (fun r h _ => r = .tuple [] ∧ h = [(0, .arr 2 (rws (Sort.heapSort (ltC c) d a b).toList))]) := by
  obtain ⟨R, hR⟩ : ∃ R, Sort.heapSort (ltC c) d a b = R := ⟨_, rfl⟩
  rw [hR]
  unfold Sort.heapSort at hR
  generalize hN : d.size = N at *
  obtain ⟨n, hn0⟩ : ∃ n, b - a = n := ⟨_, rfl⟩
  rw [hn0] at hR
  have u0 : (b : Int) - (a : Int) = (n : Int) := by omega
  have u1 : ((n : Int) - 1).tdiv 2 = (((n - 1) / 2 : Nat) : Int) := by
    rw [Int.tdiv_eq_ediv_of_nonneg (by omega)]; omega
  obtain ⟨B, hB⟩ : ∃ B, Sort.heapBuild (ltC c) n a ((n - 1) / 2 + 1) d = B := ⟨_, rfl⟩
  rw [hB] at hR
  refine HCall_intro (c := Try.f55.body.getD .skip) Try.func55 rfl (by decide +kernel) (W_start ?_)
  simp only [Try.f55, go_sem]
  have zz1 := u0
  have zz2 := u1
  repeat' first
    | refine Z2 ?_
    | refine Zx ?_
    | (refine Ze ?_; clear hK K)
    | refine W_reg fun K hK => ?_
    | refine W_drwR rfl mixed (by decide +kernel) fun K hK => ?_
    | refine W_drw mixed (by decide +kernel) fun K hK => ?_
    | (refine Zb ?_ ?_ <;> intro hb <;> first | (simp (disch := omega) only [go_sem, zz1, zz2] at hb; done) | (simp (disch := omega) only [go_sem, zz1, zz2] at hb; try omega) | try omega)
    | (refine Zl ?_; intro bn hnil; (try simp (disch := omega) only [go_sem, zz1, zz2] at hnil); dsimp only [putT, List.set_cons_succ, List.set_cons_zero])
  refine W_foldM (fun (q : Nat × Array TItem) => [none, none, none, none, none, none, none, none, none, none, none, some (.int .i64 ((q.1 : Int) - 1)), none, none, none, none, none, none, none, none, some .junk, some .junk, some .junk, some .junk, some .junk, some .junk, some .junk, some .junk, some .junk, some .junk]) (fun q => [(0, .arr 2 (rws q.2.toList))]) (fun q => q.1 ≤ (n - 1) / 2 + 1 ∧ q.2.size = N ∧ Sort.heapBuild (ltC c) n a q.1 q.2 = B) (fun q => q.1) ((n - 1) / 2 + 1, d) ⟨Nat.le_refl _, hN, hB⟩ (by rw [show (((((n - 1) / 2 + 1 : Nat), d) : Nat × Array TItem).1 : Int) - 1 = (((n - 1) / 2 : Nat) : Int) by simp]; exact (by exact weak_mk wkD wkH wkN wkM (by omega))) ?_
  rintro ⟨k, d1⟩ ⟨h1, h2, h3⟩
  simp only [] at h1 h2 h3
  simp only [msk_none, msk_some, msk_nil]
  cases k with
  | succ k =>
    rw [Sort.heapBuild] at h3
    have u2 : ((k + 1 : Nat) : Int) - 1 = (k : Int) := by omega
    have c1 := sift_F hc d1 N k n a h2 (by omega) (by omega) hn 0
    rw [u2]
    repeat' first
      | refine Z0 ?_
      | refine Zx ?_
      | refine Zfc c1 ?_
      | (refine Ze ?_; clear hK K)
      | refine W_reg fun K hK => ?_
      | refine W_drwR rfl mixed (by decide +kernel) fun K hK => ?_
      | refine W_drw mixed (by decide +kernel) fun K hK => ?_
      | (refine Zb ?_ ?_ <;> intro hb <;> first | (simp (disch := omega) only [go_sem] at hb; done) | (simp (disch := omega) only [go_sem] at hb; try omega) | try omega)
      | (refine Zl ?_; intro bn hnil; (try simp (disch := omega) only [go_sem] at hnil); dsimp only [putT, List.set_cons_succ, List.set_cons_zero])
    exact L_next ⟨(k, Sort.siftDown (ltC c) n a k d1), by simp, ⟨by simp only []; omega, by rw [size_sift]; exact h2, h3⟩, (by exact weak_mk wkD wkH wkN wkM (by omega))⟩
  | zero =>
    have h3 : d1 = B := h3
    subst h3
    repeat' first
      | refine Z0 ?_
      | refine Zx ?_
      | (refine Ze ?_; clear hK K)
      | refine W_reg fun K hK => ?_
      | refine W_drwR rfl mixed (by decide +kernel) fun K hK => ?_
      | refine W_drw mixed (by decide +kernel) fun K hK => ?_
      | (refine Zb ?_ ?_ <;> intro hb <;> first | (simp (disch := omega) only [go_sem] at hb; done) | (simp (disch := omega) only [go_sem] at hb; try omega) | try omega)
      | (refine Zl ?_; intro bn hnil; (try simp (disch := omega) only [go_sem] at hnil); dsimp only [putT, List.set_cons_succ, List.set_cons_zero])
    refine W_foldM (fun (q : Nat × Array TItem) => [none, none, none, none, none, none, none, none, none, none, none, none, some (.int .i64 ((q.1 : Int) - 1)), none, none, none, none, none, none, none, none, none, none, none, none, none, none, none, none, none, none, none, some .junk, some .junk, some .junk, some .junk, some .junk, some .junk, some .junk, some .junk, some .junk, some .junk, some .junk, some .junk, some .junk, some .junk, some .junk, some .junk, some .junk, some .junk, some .junk, some .junk, some .junk, some .junk, some .junk, some .junk, some .junk, some .junk, some .junk, some .junk]) (fun q => [(0, .arr 2 (rws q.2.toList))]) (fun q => q.1 ≤ n ∧ q.2.size = N ∧ Sort.heapPop (ltC c) a q.1 q.2 = R) (fun q => q.1) (n, d1) ⟨Nat.le_refl _, h2, hR⟩ (by exact weak_mk wkD wkH wkN wkM (by omega)) ?_
    rintro ⟨k, d2⟩ ⟨k1, k2, k3⟩
    simp only [] at k1 k2 k3
    simp only [msk_none, msk_some, msk_nil]
    have hl2 := srl d2
    rw [k2] at hl2
    cases k with
    | succ k =>
      rw [Sort.heapPop] at k3
      have u2 : ((k + 1 : Nat) : Int) - 1 = (k : Int) := by omega
      have c1 := sift_F hc (Sort.swp d2 a (a + k)) N 0 k a (by rw [Sort.size_swp]; exact k2) (by omega) (by omega) hn 0
      have x1 := sget d2 (i := a) (by omega)
      have x2 := sget d2 (i := a + k) (by omega)
      have e1 := sset d2 a d2[a + k]!
      have e2 := ssw d2 a (a + k)
      have e3 := ssz d2 a d2[a + k]!
      rw [k2] at e3
      have x3 := sget (d2.setIfInBounds a d2[a + k]!) (i := a + k) (by simp; omega)
      have u3 : ((a : Int) + (k : Int)).toNat = a + k := by omega
      simp only [enc_TItem] at e1 e2
      rw [u2]
      have zz1 := x1
      have zz2 := x2
      have zz3 := e1
      have zz4 := e2
      have zz5 := e3
      have zz6 := x3
      have zz7 := hl2
      have zz8 := u3
      repeat' first
        | refine Z8 ?_
        | refine Zx ?_
        | refine Zfc c1 ?_
        | (refine Ze ?_; clear hK K)
        | refine W_reg fun K hK => ?_
        | refine W_drwR rfl mixed (by decide +kernel) fun K hK => ?_
        | refine W_drw mixed (by decide +kernel) fun K hK => ?_
        | (refine Zb ?_ ?_ <;> intro hb <;> first | (simp (disch := omega) only [go_sem, zz1, zz2, zz3, zz4, zz5, zz6, zz7, zz8] at hb; done) | (simp (disch := omega) only [go_sem, zz1, zz2, zz3, zz4, zz5, zz6, zz7, zz8] at hb; try omega) | try omega)
        | (refine Zl ?_; intro bn hnil; (try simp (disch := omega) only [go_sem, zz1, zz2, zz3, zz4, zz5, zz6, zz7, zz8] at hnil); dsimp only [putT, List.set_cons_succ, List.set_cons_zero])
      exact L_next ⟨(k, Sort.siftDown (ltC c) k a 0 (Sort.swp d2 a (a + k))), by simp, ⟨by simp only []; omega, by rw [size_sift, Sort.size_swp]; exact k2, k3⟩, (by exact weak_mk wkD wkH wkN wkM (by omega))⟩
    | zero =>
      have k3 : d2 = R := k3
      subst k3
      repeat' first
        | refine Z0 ?_
        | refine Zx ?_
        | (refine Ze ?_; clear hK K)
        | refine W_reg fun K hK => ?_
        | refine W_drwR rfl mixed (by decide +kernel) fun K hK => ?_
        | refine W_drw mixed (by decide +kernel) fun K hK => ?_
        | (refine Zb ?_ ?_ <;> intro hb <;> first | (simp (disch := omega) only [go_sem] at hb; done) | (simp (disch := omega) only [go_sem] at hb; try omega) | try omega)
        | (refine Zl ?_; intro bn hnil; (try simp (disch := omega) only [go_sem] at hnil); dsimp only [putT, List.set_cons_succ, List.set_cons_zero])
      exact Zrf

theorem rev_ok (d : Array TItem) (a b : Nat) (hab : a < b) (hb : b ≤ d.size) (hn : d.size ≤ 4294967296) : HCall Try.prog 58 [.ref 0 d.size 0 d.size false d.size, .int .i64 a, .int .i64 b, .func (.func 50) [] []] [(0, .arr 2 (rws d.toList))] 1
    (fun r h _ => r = .tuple [] ∧ h = [(0, .arr 2 (rws (Sort.reverseRange d a b).toList))]) := by
  obtain ⟨R, hR⟩ : ∃ R, Sort.reverseRange d a b = R := ⟨_, rfl⟩
  rw [hR]
  unfold Sort.reverseRange at hR
  generalize hN : d.size = N at *
  have u0 : (b : Int) - 1 = ((b - 1 : Nat) : Int) := by omega
  refine HCall_intro (c := Try.f58.body.getD .skip) Try.func58 rfl (by decide +kernel) (W_start ?_)
  simp only [Try.f58, go_sem]
  have zz1 := u0
  repeat' first
    | refine Z1 ?_
    | refine Zx ?_
    | (refine Ze ?_; clear hK K)
    | refine W_reg fun K hK => ?_
    | refine W_drwR rfl mixed (by decide +kernel) fun K hK => ?_
    | refine W_drw mixed (by decide +kernel) fun K hK => ?_
    | (refine Zb ?_ ?_ <;> intro hb <;> first | (simp (disch := omega) only [go_sem, zz1] at hb; done) | (simp (disch := omega) only [go_sem, zz1] at hb; try omega) | try omega)
    | (refine Zl ?_; intro bn hnil; (try simp (disch := omega) only [go_sem, zz1] at hnil); dsimp only [putT, List.set_cons_succ, List.set_cons_zero])
  refine W_foldM (fun (q : Nat × Nat × Array TItem) => [none, none, none, none, none, none, none, none, some (.int .i64 q.1), some (.int .i64 q.2.1), none, none, none, some .junk, some .junk, some .junk, some .junk, some .junk, some .junk, some .junk, some .junk, some .junk, some .junk, some .junk, some .junk, some .junk, some .junk, some .junk, some .junk, some .junk, some .junk, some .junk, some .junk, some .junk]) (fun q => [(0, .arr 2 (rws q.2.2.toList))]) (fun q => q.2.2.size = N ∧ q.2.1 < b ∧ q.1 ≤ b ∧ Sort.reverseLoop q.1 q.2.1 q.2.2 = R) (fun q => q.2.1 - q.1) (a, b - 1, d) ⟨hN, by simp only []; omega, by simp only []; omega, hR⟩ (by exact weak_mk wkD wkH wkN wkM (by omega)) ?_
  rintro ⟨i, j, d1⟩ ⟨h1, h2, h4, h3⟩
  simp only [] at h1 h2 h3 h4
  simp only [msk_none, msk_some, msk_nil]
  have hl1 := srl d1
  rw [h1] at hl1
  rw [Sort.reverseLoop] at h3
  by_cases hij : i < j
  · rw [if_pos hij] at h3
    have x1 := sget d1 (i := i) (by omega)
    have x2 := sget d1 (i := j) (by omega)
    have e1 := sset d1 i d1[j]!
    have e2 := ssw d1 i j
    have e3 := ssz d1 i d1[j]!
    rw [h1] at e3
    have x3 := sget (d1.setIfInBounds i d1[j]!) (i := j) (by simp; omega)
    have u1 : (j : Int) - 1 = ((j - 1 : Nat) : Int) := by omega
    simp only [enc_TItem] at e1 e2
    have zz1 := x1
    have zz2 := x2
    have zz3 := e1
    have zz4 := e2
    have zz5 := e3
    have zz6 := x3
    have zz7 := hl1
    have zz8 := u1
    repeat' first
      | refine Z8 ?_
      | refine Zx ?_
      | (refine Ze ?_; clear hK K)
      | refine W_reg fun K hK => ?_
      | refine W_drwR rfl mixed (by decide +kernel) fun K hK => ?_
      | refine W_drw mixed (by decide +kernel) fun K hK => ?_
      | (refine Zb ?_ ?_ <;> intro hb <;> first | (simp (disch := omega) only [go_sem, zz1, zz2, zz3, zz4, zz5, zz6, zz7, zz8] at hb; done) | (simp (disch := omega) only [go_sem, zz1, zz2, zz3, zz4, zz5, zz6, zz7, zz8] at hb; try omega) | try omega)
      | (refine Zl ?_; intro bn hnil; (try simp (disch := omega) only [go_sem, zz1, zz2, zz3, zz4, zz5, zz6, zz7, zz8] at hnil); dsimp only [putT, List.set_cons_succ, List.set_cons_zero])
    all_goals exact L_next ⟨(i + 1, j - 1, Sort.swp d1 i j), by simp only []; omega, ⟨by rw [Sort.size_swp]; exact h1, by simp only []; omega, by simp only []; omega, h3⟩, (by exact weak_mk wkD wkH wkN wkM (by omega))⟩
  · rw [if_neg hij] at h3
    subst h3
    repeat' first
      | refine Z0 ?_
      | refine Zx ?_
      | (refine Ze ?_; clear hK K)
      | refine W_reg fun K hK => ?_
      | refine W_drwR rfl mixed (by decide +kernel) fun K hK => ?_
      | refine W_drw mixed (by decide +kernel) fun K hK => ?_
      | (refine Zb ?_ ?_ <;> intro hb <;> first | (simp (disch := omega) only [go_sem] at hb; done) | (simp (disch := omega) only [go_sem] at hb; try omega) | try omega)
      | (refine Zl ?_; intro bn hnil; (try simp (disch := omega) only [go_sem] at hnil); dsimp only [putT, List.set_cons_succ, List.set_cons_zero])
    exact Zrf

end
end Go.Proofs.Ytfbmbjfcgoahfaa
