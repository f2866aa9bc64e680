/-
  slices.SortFunc at a struct: the pivot; walked. From a template.
-/
import Derived.Test.YtfbmbjfcgoahfaaS3
namespace Go.Proofs.Ytfbmbjfcgoahfaa
open Go Go.AM
set_option maxHeartbeats 8000000
set_option maxRecDepth 8000
set_option linter.unusedSimpArgs false
set_option linter.unusedVariables false

section
variable {c : TItem → TItem → Int}

abbrev oR (r : Nat × Nat × Nat) : AVal := .tuple [.int .i64 r.1, .int .i64 r.2.1]

theorem o2_ok (hc : CmpOk 50 c) (d : Array TItem) (a b s : Nat) (ha : a < d.size) (hb : b < d.size) (hs : s ≤ 1000) (hn : d.size ≤ 4294967296) : HCall Try.prog 69 [.ref 0 d.size 0 d.size false d.size, .int .i64 a, .int .i64 b, .ptr 1 1 0 0, .func (.func 50) [] []] [(1, .arr 1 [[.int .i64 s]]), (0, .arr 2 (rws d.toList))] 2
    (fun r h _ => r = oR (Sort.order2 (ltC c) d a b s) ∧ h = [(1, .arr 1 [[.int .i64 (Sort.order2 (ltC c) d a b s).2.2]]), (0, .arr 2 (rws d.toList))]) := by
  have hl1 := srl d
  generalize hN : d.size = N at *
  have x1 := sget d (i := b) (by omega)
  have x2 := sget d (i := a) (by omega)
  have c1 := hc d[b]! d[a]!
  unfold Sort.order2
  by_cases hlt : c d[b]! d[a]! < 0
  · rw [if_pos (by simp [hlt])]
    have u1 : (s : Int) + 1 = ((s + 1 : Nat) : Int) := by omega
    refine HCall_intro (c := Try.f69.body.getD .skip) Try.func69 rfl (by decide +kernel) (W_start ?_)
    simp only [Try.f69, go_sem]
    have zz1 := x1
    have zz2 := x2
    have zz3 := hl1
    have zz4 := u1
    repeat' first
      | refine Z4 ?_
      | refine Zx ?_
      | refine Zc c1 ?_
      | (refine Ze ?_; clear hK K)
      | refine W_reg fun K hK => ?_
      | refine W_drwR rfl mixed (by decide +kernel) fun K hK => ?_
      | refine W_drw mixed (by decide +kernel) fun K hK => ?_
      | (refine Zb ?_ ?_ <;> intro hb <;> first | (simp (disch := omega) only [go_sem, zz1, zz2, zz3, zz4] at hb; done) | (simp (disch := omega) only [go_sem, zz1, zz2, zz3, zz4] at hb; try omega) | try omega)
      | (refine Zl ?_; intro bn hnil; (try simp (disch := omega) only [go_sem, zz1, zz2, zz3, zz4] at hnil); dsimp only [putT, List.set_cons_succ, List.set_cons_zero])
    exact Zrf
  · rw [if_neg (by simp [hlt])]
    refine HCall_intro (c := Try.f69.body.getD .skip) Try.func69 rfl (by decide +kernel) (W_start ?_)
    simp only [Try.f69, go_sem]
    have zz1 := x1
    have zz2 := x2
    have zz3 := hl1
    repeat' first
      | refine Z3 ?_
      | refine Zx ?_
      | refine Zc c1 ?_
      | (refine Ze ?_; clear hK K)
      | refine W_reg fun K hK => ?_
      | refine W_drwR rfl mixed (by decide +kernel) fun K hK => ?_
      | refine W_drw mixed (by decide +kernel) fun K hK => ?_
      | (refine Zb ?_ ?_ <;> intro hb <;> first | (simp (disch := omega) only [go_sem, zz1, zz2, zz3] at hb; done) | (simp (disch := omega) only [go_sem, zz1, zz2, zz3] at hb; try omega) | try omega)
      | (refine Zl ?_; intro bn hnil; (try simp (disch := omega) only [go_sem, zz1, zz2, zz3] at hnil); dsimp only [putT, List.set_cons_succ, List.set_cons_zero])
    exact Zrf

theorem o2_F (hc : CmpOk 50 c) (d : Array TItem) (N a b s : Nat) (hN : d.size = N) (ha : a < N) (hb : b < N) (hs : s ≤ 1000) (hn : N ≤ 4294967296) (A S : Nat) (hd : A ≠ S) : FCall Try.prog 69 [.ref A N 0 N false N, .int .i64 a, .int .i64 b, .ptr S 1 0 0, .func (.func 50) [] []] [(S, .arr 1 [[.int .i64 s]]), (A, .arr 2 (rws d.toList))]
    (oR (Sort.order2 (ltC c) d a b s)) [(S, .arr 1 [[.int .i64 (Sort.order2 (ltC c) d a b s).2.2]]), (A, .arr 2 (rws d.toList))] := by
  subst hN
  exact FCall.arr2 (o2_ok hc d a b s ha hb hs hn) A S hd (by simp [lfA_leaf, lf_ref, lf_ptr, lf_int, lf_fn]) (lfA_tup _ _ (by simp [lf_int])) rfl rfl

theorem o2_le (lt : TItem → TItem → Bool) (d : Array TItem) (a b s : Nat) : (Sort.order2 lt d a b s).2.2 ≤ s + 1 := by
  unfold Sort.order2; split <;> simp

theorem med_ok (hc : CmpOk 50 c) (d : Array TItem) (a b e s : Nat) (ha : a < d.size) (hb : b < d.size) (he : e < d.size) (hs : s ≤ 900) (hn : d.size ≤ 4294967296) : HCall Try.prog 68 [.ref 0 d.size 0 d.size false d.size, .int .i64 a, .int .i64 b, .int .i64 e, .ptr 1 1 0 0, .func (.func 50) [] []] [(1, .arr 1 [[.int .i64 s]]), (0, .arr 2 (rws d.toList))] 2
    (fun r h _ => r = .int .i64 (Sort.median (ltC c) d a b e s).1 ∧ h = [(1, .arr 1 [[.int .i64 (Sort.median (ltC c) d a b e s).2]]), (0, .arr 2 (rws d.toList))]) := by
  have m1 := Sort.order2_mem (ltC c) d a b s
  have l1 := o2_le (ltC c) d a b s
  have c1 := o2_F hc d d.size a b s rfl ha hb (by omega) hn 0 1 (by decide)
  unfold Sort.median
  generalize Sort.order2 (ltC c) d a b s = r1 at *
  obtain ⟨p1, q1, s1⟩ := r1
  simp only [] at m1 l1 c1 ⊢
  have m2 := Sort.order2_mem (ltC c) d q1 e s1
  have l2 := o2_le (ltC c) d q1 e s1
  have c2 := o2_F hc d d.size q1 e s1 rfl (by omega) he (by omega) hn 0 1 (by decide)
  generalize Sort.order2 (ltC c) d q1 e s1 = r2 at *
  obtain ⟨p2, q2, s2⟩ := r2
  simp only [] at m2 l2 c2 ⊢
  have m3 := Sort.order2_mem (ltC c) d p1 p2 s2
  have l3 := o2_le (ltC c) d p1 p2 s2
  have c3 := o2_F hc d d.size p1 p2 s2 rfl (by omega) (by omega) (by omega) hn 0 1 (by decide)
  generalize Sort.order2 (ltC c) d p1 p2 s2 = r3 at *
  obtain ⟨p3, q3, s3⟩ := r3
  simp only [] at m3 l3 c3 ⊢
  refine HCall_intro (c := Try.f68.body.getD .skip) Try.func68 rfl (by decide +kernel) (W_start ?_)
  simp only [Try.f68, go_sem]
  repeat' first
    | refine Z0 ?_
    | refine Zx ?_
    | refine Zfc c1 ?_
    | refine Zfc c2 ?_
    | refine Zfc c3 ?_
    | (refine Ze ?_; clear hK K)
    | refine W_reg fun K hK => ?_
    | refine W_drwR rfl mixed (by decide +kernel) fun K hK => ?_
    | refine W_drw mixed (by decide +kernel) fun K hK => ?_
    | (refine Zb ?_ ?_ <;> intro hb <;> first | (simp (disch := omega) only [go_sem] at hb; done) | (simp (disch := omega) only [go_sem] at hb; try omega) | try omega)
    | (refine Zl ?_; intro bn hnil; (try simp (disch := omega) only [go_sem] at hnil); dsimp only [putT, List.set_cons_succ, List.set_cons_zero])
  exact Zrf

theorem med_F (hc : CmpOk 50 c) (d : Array TItem) (N a b e s : Nat) (hN : d.size = N) (ha : a < N) (hb : b < N) (he : e < N) (hs : s ≤ 900) (hn : N ≤ 4294967296) (A S : Nat) (hd : A ≠ S) : FCall Try.prog 68 [.ref A N 0 N false N, .int .i64 a, .int .i64 b, .int .i64 e, .ptr S 1 0 0, .func (.func 50) [] []] [(S, .arr 1 [[.int .i64 s]]), (A, .arr 2 (rws d.toList))]
    (.int .i64 (Sort.median (ltC c) d a b e s).1) [(S, .arr 1 [[.int .i64 (Sort.median (ltC c) d a b e s).2]]), (A, .arr 2 (rws d.toList))] := by
  subst hN
  exact FCall.arr2 (med_ok hc d a b e s ha hb he hs hn) A S hd (by simp [lfA_leaf, lf_ref, lf_ptr, lf_int, lf_fn]) (.leaf _ (.fz _ (.int _ _))) rfl rfl

theorem med_le (lt : TItem → TItem → Bool) (d : Array TItem) (a b e s : Nat) : (Sort.median lt d a b e s).2 ≤ s + 3 := by
  exact Nat.le_trans (o2_le lt d _ _ _) (Nat.succ_le_succ (Nat.le_trans (o2_le lt d _ _ _) (Nat.succ_le_succ (o2_le lt d a b s))))

theorem madj_ok (hc : CmpOk 50 c) (d : Array TItem) (a s : Nat) (ha : 0 < a) (hb : a + 1 < d.size) (hs : s ≤ 900) (hn : d.size ≤ 4294967296) : HCall Try.prog 67 [.ref 0 d.size 0 d.size false d.size, .int .i64 a, .ptr 1 1 0 0, .func (.func 50) [] []] [(1, .arr 1 [[.int .i64 s]]), (0, .arr 2 (rws d.toList))] 2
    (fun r h _ => r = .int .i64 (Sort.medianAdjacent (ltC c) d a s).1 ∧ h = [(1, .arr 1 [[.int .i64 (Sort.medianAdjacent (ltC c) d a s).2]]), (0, .arr 2 (rws d.toList))]) := by
  unfold Sort.medianAdjacent
  have c1 := med_F hc d d.size (a - 1) a (a + 1) s rfl (by omega) (by omega) hb hs hn 0 1 (by decide)
  have u1 : (a : Int) - 1 = ((a - 1 : Nat) : Int) := by omega
  have u2 : (a : Int) + 1 = ((a + 1 : Nat) : Int) := by omega
  refine HCall_intro (c := Try.f67.body.getD .skip) Try.func67 rfl (by decide +kernel) (W_start ?_)
  simp only [Try.f67, go_sem]
  have zz1 := u1
  have zz2 := u2
  repeat' first
    | refine Z2 ?_
    | refine Zx ?_
    | refine Zfc c1 ?_
    | (refine Ze ?_; clear hK K)
    | refine W_reg fun K hK => ?_
    | refine W_drwR rfl mixed (by decide +kernel) fun K hK => ?_
    | refine W_drw mixed (by decide +kernel) fun K hK => ?_
    | (refine Zb ?_ ?_ <;> intro hb <;> first | (simp (disch := omega) only [go_sem, zz1, zz2] at hb; done) | (simp (disch := omega) only [go_sem, zz1, zz2] at hb; try omega) | try omega)
    | (refine Zl ?_; intro bn hnil; (try simp (disch := omega) only [go_sem, zz1, zz2] at hnil); dsimp only [putT, List.set_cons_succ, List.set_cons_zero])
  exact Zrf

theorem madj_F (hc : CmpOk 50 c) (d : Array TItem) (N a s : Nat) (hN : d.size = N) (ha : 0 < a) (hb : a + 1 < N) (hs : s ≤ 900) (hn : N ≤ 4294967296) (A S : Nat) (hd : A ≠ S) : FCall Try.prog 67 [.ref A N 0 N false N, .int .i64 a, .ptr S 1 0 0, .func (.func 50) [] []] [(S, .arr 1 [[.int .i64 s]]), (A, .arr 2 (rws d.toList))]
    (.int .i64 (Sort.medianAdjacent (ltC c) d a s).1) [(S, .arr 1 [[.int .i64 (Sort.medianAdjacent (ltC c) d a s).2]]), (A, .arr 2 (rws d.toList))] := by
  subst hN
  exact FCall.arr2 (madj_ok hc d a s ha hb hs hn) A S hd (by simp [lfA_leaf, lf_ref, lf_ptr, lf_int, lf_fn]) (.leaf _ (.fz _ (.int _ _))) rfl rfl

def hintN : Sort.Hint → Int
  | .unknown => 0
  | .increasing => 1
  | .decreasing => 2

theorem chpA_ok (hc : CmpOk 50 c) (d : Array TItem) (a b : Nat) (hab : a + 12 < b) (h50 : b - a ≥ 50) (hb : b ≤ d.size) (hn : d.size ≤ 4294967296) : HCall Try.prog 57 [.ref 0 d.size 0 d.size false d.size, .int .i64 a, .int .i64 b, .func (.func 50) [] []] [(0, .arr 2 (rws d.toList))] 1
    (fun r h _ => r = .tuple [.int .i64 (Sort.choosePivot (ltC c) d a b).1, .int .i64 (hintN (Sort.choosePivot (ltC c) d a b).2)] ∧ h = [(0, .arr 2 (rws d.toList))]) := by
  obtain ⟨R, hR⟩ : ∃ R, Sort.choosePivot (ltC c) d a b = R := ⟨_, rfl⟩
  rw [hR]
  unfold Sort.choosePivot at hR
  obtain ⟨l, hl⟩ : ∃ l, b - a = l := ⟨_, rfl⟩
  simp only [hl] at hR
  rw [hl] at h50
  have u0 : (b : Int) - (a : Int) = (l : Int) := by omega
  have u1 : ((l : Int)).tdiv 4 = ((l / 4 : Nat) : Int) := by
    rw [Int.tdiv_eq_ediv_of_nonneg (by omega)]; omega
  obtain ⟨q, hq⟩ : ∃ q, l / 4 = q := ⟨_, rfl⟩
  rw [hq] at hR u1
  have hq3 : 3 ≤ q := by omega
  have hq4 : 4 * q ≤ l := by omega
  have u2 : (a : Int) + (q : Int) * 1 = ((a + q * 1 : Nat) : Int) := by omega
  have u3 : (a : Int) + (q : Int) * 2 = ((a + q * 2 : Nat) : Int) := by omega
  have u4 : (a : Int) + (q : Int) * 3 = ((a + q * 3 : Nat) : Int) := by omega
  obtain ⟨i, hi⟩ : ∃ i, a + q * 1 = i := ⟨_, rfl⟩
  obtain ⟨j, hj⟩ : ∃ j, a + q * 2 = j := ⟨_, rfl⟩
  obtain ⟨k, hk⟩ : ∃ k, a + q * 3 = k := ⟨_, rfl⟩
  rw [hi] at u2 hR
  rw [hj] at u3 hR
  rw [hk] at u4 hR
  have u5 : (q : Int) * 1 = (q : Int) := by omega
  have u6 : (a : Int) + (q : Int) = (i : Int) := by omega
  rw [if_pos (by omega)] at hR
  have fin : ∀ (p s : Nat), ((p, if s = 0 then Sort.Hint.increasing else if s = 12 then Sort.Hint.decreasing else Sort.Hint.unknown) : Nat × Sort.Hint) = R → R.1 = p ∧ hintN R.2 = if s = 0 then 1 else if s = 12 then 2 else 0 := fun p s h => by
    rw [← h]
    refine ⟨rfl, ?_⟩
    simp only []
    split
    · rfl
    · split <;> rfl
  · rw [if_pos h50] at hR
    have m1 := Sort.medianAdjacent_mem (ltC c) d i 0
    have l1 : (Sort.medianAdjacent (ltC c) d i 0).2 ≤ 0 + 3 := med_le _ _ _ _ _ _
    have c1 := madj_F hc d d.size i 0 rfl (by omega) (by omega) (by omega) hn 0 7 (by decide)
    rw [show ((0 : Nat) : Int) = 0 from rfl] at c1
    generalize Sort.medianAdjacent (ltC c) d i 0 = r1 at *
    obtain ⟨p1, s1⟩ := r1
    simp only [] at m1 l1 c1 hR
    have m2 := Sort.medianAdjacent_mem (ltC c) d j s1
    have l2 : (Sort.medianAdjacent (ltC c) d j s1).2 ≤ s1 + 3 := med_le _ _ _ _ _ _
    have c2 := madj_F hc d d.size j s1 rfl (by omega) (by omega) (by omega) hn 0 7 (by decide)
    generalize Sort.medianAdjacent (ltC c) d j s1 = r2 at *
    obtain ⟨p2, s2⟩ := r2
    simp only [] at m2 l2 c2 hR
    have m3 := Sort.medianAdjacent_mem (ltC c) d k s2
    have l3 : (Sort.medianAdjacent (ltC c) d k s2).2 ≤ s2 + 3 := med_le _ _ _ _ _ _
    have c3 := madj_F hc d d.size k s2 rfl (by omega) (by omega) (by omega) hn 0 7 (by decide)
    generalize Sort.medianAdjacent (ltC c) d k s2 = r3 at *
    obtain ⟨p3, s3⟩ := r3
    simp only [] at m3 l3 c3 hR
    have l4 := med_le (ltC c) d p1 p2 p3 s3
    have c4 := med_F hc d d.size p1 p2 p3 s3 rfl (by omega) (by omega) (by omega) (by omega) hn 0 7 (by decide)
    generalize Sort.median (ltC c) d p1 p2 p3 s3 = r4 at *
    obtain ⟨p4, s4⟩ := r4
    simp only [] at l4 c4 hR
    obtain ⟨f1, f2⟩ := fin p4 s4 hR
    rw [f1, f2]
    by_cases hs0 : s4 = 0
    · rw [if_pos hs0]
      refine HCall_intro (c := Try.f57.body.getD .skip) Try.func57 rfl (by decide +kernel) (W_start ?_)
      simp only [Try.f57, go_sem]
      have zz1 := u0
      have zz2 := u1
      have zz3 := u5
      have zz4 := u6
      have zz5 := u3
      have zz6 := u4
      repeat' first
        | refine Z6 ?_
        | refine Zx ?_
        | refine Zfc c1 ?_
        | refine Zfc c2 ?_
        | refine Zfc c3 ?_
        | refine Zfc c4 ?_
        | (refine Ze ?_; clear hK K)
        | refine W_reg fun K hK => ?_
        | refine W_drwR rfl mixed (by decide +kernel) fun K hK => ?_
        | refine W_drw mixed (by decide +kernel) fun K hK => ?_
        | (refine Zb ?_ ?_ <;> intro hb <;> first | (simp (disch := omega) only [go_sem, zz1, zz2, zz3, zz4, zz5, zz6] at hb; done) | (simp (disch := omega) only [go_sem, zz1, zz2, zz3, zz4, zz5, zz6] at hb; try omega) | try omega)
        | (refine Zl ?_; intro bn hnil; (try simp (disch := omega) only [go_sem, zz1, zz2, zz3, zz4, zz5, zz6] at hnil); dsimp only [putT, List.set_cons_succ, List.set_cons_zero])
      exact Zrf
    · rw [if_neg hs0]
      by_cases hs1 : s4 = 12
      · rw [if_pos hs1]
        refine HCall_intro (c := Try.f57.body.getD .skip) Try.func57 rfl (by decide +kernel) (W_start ?_)
        simp only [Try.f57, go_sem]
        have zz1 := u0
        have zz2 := u1
        have zz3 := u5
        have zz4 := u6
        have zz5 := u3
        have zz6 := u4
        repeat' first
          | refine Z6 ?_
          | refine Zx ?_
          | refine Zfc c1 ?_
          | refine Zfc c2 ?_
          | refine Zfc c3 ?_
          | refine Zfc c4 ?_
          | (refine Ze ?_; clear hK K)
          | refine W_reg fun K hK => ?_
          | refine W_drwR rfl mixed (by decide +kernel) fun K hK => ?_
          | refine W_drw mixed (by decide +kernel) fun K hK => ?_
          | (refine Zb ?_ ?_ <;> intro hb <;> first | (simp (disch := omega) only [go_sem, zz1, zz2, zz3, zz4, zz5, zz6] at hb; done) | (simp (disch := omega) only [go_sem, zz1, zz2, zz3, zz4, zz5, zz6] at hb; try omega) | try omega)
          | (refine Zl ?_; intro bn hnil; (try simp (disch := omega) only [go_sem, zz1, zz2, zz3, zz4, zz5, zz6] at hnil); dsimp only [putT, List.set_cons_succ, List.set_cons_zero])
        exact Zrf
      · rw [if_neg hs1]
        refine HCall_intro (c := Try.f57.body.getD .skip) Try.func57 rfl (by decide +kernel) (W_start ?_)
        simp only [Try.f57, go_sem]
        have zz1 := u0
        have zz2 := u1
        have zz3 := u5
        have zz4 := u6
        have zz5 := u3
        have zz6 := u4
        repeat' first
          | refine Z6 ?_
          | refine Zx ?_
          | refine Zfc c1 ?_
          | refine Zfc c2 ?_
          | refine Zfc c3 ?_
          | refine Zfc c4 ?_
          | (refine Ze ?_; clear hK K)
          | refine W_reg fun K hK => ?_
          | refine W_drwR rfl mixed (by decide +kernel) fun K hK => ?_
          | refine W_drw mixed (by decide +kernel) fun K hK => ?_
          | (refine Zb ?_ ?_ <;> intro hb <;> first | (simp (disch := omega) only [go_sem, zz1, zz2, zz3, zz4, zz5, zz6] at hb; done) | (simp (disch := omega) only [go_sem, zz1, zz2, zz3, zz4, zz5, zz6] at hb; try omega) | try omega)
          | (refine Zl ?_; intro bn hnil; (try simp (disch := omega) only [go_sem, zz1, zz2, zz3, zz4, zz5, zz6] at hnil); dsimp only [putT, List.set_cons_succ, List.set_cons_zero])
        exact Zrf

theorem chpB_ok (hc : CmpOk 50 c) (d : Array TItem) (a b : Nat) (hab : a + 12 < b) (h50 : ¬ b - a ≥ 50) (hb : b ≤ d.size) (hn : d.size ≤ 4294967296) : HCall Try.prog 57 [.ref 0 d.size 0 d.size false d.size, .int .i64 a, .int .i64 b, .func (.func 50) [] []] [(0, .arr 2 (rws d.toList))] 1
    (fun r h _ => r = .tuple [.int .i64 (Sort.choosePivot (ltC c) d a b).1, .int .i64 (hintN (Sort.choosePivot (ltC c) d a b).2)] ∧ h = [(0, .arr 2 (rws d.toList))]) := by
  obtain ⟨R, hR⟩ : ∃ R, Sort.choosePivot (ltC c) d a b = R := ⟨_, rfl⟩
  rw [hR]
  unfold Sort.choosePivot at hR
  obtain ⟨l, hl⟩ : ∃ l, b - a = l := ⟨_, rfl⟩
  simp only [hl] at hR
  rw [hl] at h50
  have u0 : (b : Int) - (a : Int) = (l : Int) := by omega
  have u1 : ((l : Int)).tdiv 4 = ((l / 4 : Nat) : Int) := by
    rw [Int.tdiv_eq_ediv_of_nonneg (by omega)]; omega
  obtain ⟨q, hq⟩ : ∃ q, l / 4 = q := ⟨_, rfl⟩
  rw [hq] at hR u1
  have hq3 : 3 ≤ q := by omega
  have hq4 : 4 * q ≤ l := by omega
  have u2 : (a : Int) + (q : Int) * 1 = ((a + q * 1 : Nat) : Int) := by omega
  have u3 : (a : Int) + (q : Int) * 2 = ((a + q * 2 : Nat) : Int) := by omega
  have u4 : (a : Int) + (q : Int) * 3 = ((a + q * 3 : Nat) : Int) := by omega
  obtain ⟨i, hi⟩ : ∃ i, a + q * 1 = i := ⟨_, rfl⟩
  obtain ⟨j, hj⟩ : ∃ j, a + q * 2 = j := ⟨_, rfl⟩
  obtain ⟨k, hk⟩ : ∃ k, a + q * 3 = k := ⟨_, rfl⟩
  rw [hi] at u2 hR
  rw [hj] at u3 hR
  rw [hk] at u4 hR
  have u5 : (q : Int) * 1 = (q : Int) := by omega
  have u6 : (a : Int) + (q : Int) = (i : Int) := by omega
  rw [if_pos (by omega)] at hR
  have fin : ∀ (p s : Nat), ((p, if s = 0 then Sort.Hint.increasing else if s = 12 then Sort.Hint.decreasing else Sort.Hint.unknown) : Nat × Sort.Hint) = R → R.1 = p ∧ hintN R.2 = if s = 0 then 1 else if s = 12 then 2 else 0 := fun p s h => by
    rw [← h]
    refine ⟨rfl, ?_⟩
    simp only []
    split
    · rfl
    · split <;> rfl
  · rw [if_neg h50] at hR
    have l4 := med_le (ltC c) d i j k 0
    have c4 := med_F hc d d.size i j k 0 rfl (by omega) (by omega) (by omega) (by omega) hn 0 7 (by decide)
    rw [show ((0 : Nat) : Int) = 0 from rfl] at c4
    generalize Sort.median (ltC c) d i j k 0 = r4 at *
    obtain ⟨p4, s4⟩ := r4
    simp only [] at l4 c4 hR
    obtain ⟨f1, f2⟩ := fin p4 s4 hR
    rw [f1, f2]
    by_cases hs0 : s4 = 0
    · rw [if_pos hs0]
      refine HCall_intro (c := Try.f57.body.getD .skip) Try.func57 rfl (by decide +kernel) (W_start ?_)
      simp only [Try.f57, go_sem]
      have zz1 := u0
      have zz2 := u1
      have zz3 := u5
      have zz4 := u6
      have zz5 := u3
      have zz6 := u4
      repeat' first
        | refine Z6 ?_
        | refine Zx ?_
        | refine Zfc c4 ?_
        | (refine Ze ?_; clear hK K)
        | refine W_reg fun K hK => ?_
        | refine W_drwR rfl mixed (by decide +kernel) fun K hK => ?_
        | refine W_drw mixed (by decide +kernel) fun K hK => ?_
        | (refine Zb ?_ ?_ <;> intro hb <;> first | (simp (disch := omega) only [go_sem, zz1, zz2, zz3, zz4, zz5, zz6] at hb; done) | (simp (disch := omega) only [go_sem, zz1, zz2, zz3, zz4, zz5, zz6] at hb; try omega) | try omega)
        | (refine Zl ?_; intro bn hnil; (try simp (disch := omega) only [go_sem, zz1, zz2, zz3, zz4, zz5, zz6] at hnil); dsimp only [putT, List.set_cons_succ, List.set_cons_zero])
      exact Zrf
    · rw [if_neg hs0]
      rw [if_neg (by omega : ¬ s4 = 12)]
      refine HCall_intro (c := Try.f57.body.getD .skip) Try.func57 rfl (by decide +kernel) (W_start ?_)
      simp only [Try.f57, go_sem]
      have zz1 := u0
      have zz2 := u1
      have zz3 := u5
      have zz4 := u6
      have zz5 := u3
      have zz6 := u4
      repeat' first
        | refine Z6 ?_
        | refine Zx ?_
        | refine Zfc c4 ?_
        | (refine Ze ?_; clear hK K)
        | refine W_reg fun K hK => ?_
        | refine W_drwR rfl mixed (by decide +kernel) fun K hK => ?_
        | refine W_drw mixed (by decide +kernel) fun K hK => ?_
        | (refine Zb ?_ ?_ <;> intro hb <;> first | (simp (disch := omega) only [go_sem, zz1, zz2, zz3, zz4, zz5, zz6] at hb; done) | (simp (disch := omega) only [go_sem, zz1, zz2, zz3, zz4, zz5, zz6] at hb; try omega) | try omega)
        | (refine Zl ?_; intro bn hnil; (try simp (disch := omega) only [go_sem, zz1, zz2, zz3, zz4, zz5, zz6] at hnil); dsimp only [putT, List.set_cons_succ, List.set_cons_zero])
      exact Zrf

theorem chp_ok (hc : CmpOk 50 c) (d : Array TItem) (a b : Nat) (hab : a + 12 < b) (hb : b ≤ d.size) (hn : d.size ≤ 4294967296) : HCall Try.prog 57 [.ref 0 d.size 0 d.size false d.size, .int .i64 a, .int .i64 b, .func (.func 50) [] []] [(0, .arr 2 (rws d.toList))] 1
    (fun r h _ => r = .tuple [.int .i64 (Sort.choosePivot (ltC c) d a b).1, .int .i64 (hintN (Sort.choosePivot (ltC c) d a b).2)] ∧ h = [(0, .arr 2 (rws d.toList))]) := by
  by_cases h50 : b - a ≥ 50
  · exact chpA_ok hc d a b hab h50 hb hn
  · exact chpB_ok hc d a b hab h50 hb hn

end
end Go.Proofs.Ytfbmbjfcgoahfaa
