/-
  slices.SortFunc at a struct: pdqsort and the top; walked. From a template.
-/
import Derived.Test.YtfbmbjfcgoahfaaS8
import Derived.Sort.Walk13a
namespace Go.Proofs.Ytfbmbjfcgoahfaa
open Go Go.AM
set_option maxHeartbeats 8000000
set_option maxRecDepth 8000
set_option linter.unusedSimpArgs false
set_option linter.unusedVariables false

section
variable {c : TItem → TItem → Int}

theorem ins_F (hc : CmpOk 50 c) (d : Array TItem) (N a b : Nat) (hN : d.size = N) (hab : a ≤ b) (hb : b ≤ N) (hn : N ≤ 4294967296) (A : Nat) : FCall Try.prog 54 [.ref A N 0 N false N, .int .i64 a, .int .i64 b, .func (.func 50) [] []] [(A, .arr 2 (rws d.toList))]
    (.tuple []) [(A, .arr 2 (rws (Sort.insertionSort (ltC c) d a b).toList))] := by
  subst hN
  exact FCall.arr (ins_ok hc d a b hab hb hn) A (by simp [lfA_leaf, lf_ref, lf_int, lf_fn]) (lfA_tup _ _ (by simp)) rfl rfl
theorem heap_F (hc : CmpOk 50 c) (d : Array TItem) (N a b : Nat) (hN : d.size = N) (hab : a < b) (hb : b ≤ N) (hn : N ≤ 4294967296) (A : Nat) : FCall Try.prog 55 [.ref A N 0 N false N, .int .i64 a, .int .i64 b, .func (.func 50) [] []] [(A, .arr 2 (rws d.toList))]
    (.tuple []) [(A, .arr 2 (rws (Sort.heapSort (ltC c) d a b).toList))] := by
  subst hN
  exact FCall.arr (heap_ok hc d a b hab hb hn) A (by simp [lfA_leaf, lf_ref, lf_int, lf_fn]) (lfA_tup _ _ (by simp)) rfl rfl
theorem rev_F (d : Array TItem) (N a b : Nat) (hN : d.size = N) (hab : a < b) (hb : b ≤ N) (hn : N ≤ 4294967296) (A : Nat) : FCall Try.prog 58 [.ref A N 0 N false N, .int .i64 a, .int .i64 b, .func (.func 50) [] []] [(A, .arr 2 (rws d.toList))]
    (.tuple []) [(A, .arr 2 (rws (Sort.reverseRange d a b).toList))] := by
  subst hN
  exact FCall.arr (rev_ok d a b hab hb hn) A (by simp [lfA_leaf, lf_ref, lf_int, lf_fn]) (lfA_tup _ _ (by simp)) rfl rfl
theorem brk_F (d : Array TItem) (N a b : Nat) (hN : d.size = N) (h8 : 8 ≤ b - a) (hb : b ≤ N) (hn : N ≤ 4294967296) (A : Nat) : FCall Try.prog 56 [.ref A N 0 N false N, .int .i64 a, .int .i64 b, .func (.func 50) [] []] [(A, .arr 2 (rws d.toList))]
    (.tuple []) [(A, .arr 2 (rws (Sort.breakPatterns d a b).toList))] := by
  subst hN
  exact FCall.arr (brk_ok d a b h8 hb hn) A (by simp [lfA_leaf, lf_ref, lf_int, lf_fn]) (lfA_tup _ _ (by simp)) rfl rfl
theorem chp_F (hc : CmpOk 50 c) (d : Array TItem) (N a b : Nat) (hN : d.size = N) (hab : a + 12 < b) (hb : b ≤ N) (hn : N ≤ 4294967296) (A : Nat) : FCall Try.prog 57 [.ref A N 0 N false N, .int .i64 a, .int .i64 b, .func (.func 50) [] []] [(A, .arr 2 (rws d.toList))]
    (.tuple [.int .i64 (Sort.choosePivot (ltC c) d a b).1, .int .i64 (hintN (Sort.choosePivot (ltC c) d a b).2)]) [(A, .arr 2 (rws d.toList))] := by
  subst hN
  exact FCall.arr (chp_ok hc d a b hab hb hn) A (by simp [lfA_leaf, lf_ref, lf_int, lf_fn]) (lfA_tup _ _ (by simp [lf_int])) rfl rfl
theorem pis_F (hc : CmpOk 50 c) (d : Array TItem) (N a b : Nat) (hN : d.size = N) (hab : a < b) (hb : b ≤ N) (hn : N ≤ 4294967296) (A : Nat) : FCall Try.prog 59 [.ref A N 0 N false N, .int .i64 a, .int .i64 b, .func (.func 50) [] []] [(A, .arr 2 (rws d.toList))]
    (.bool (Sort.partialInsertionSort (ltC c) d a b).2) [(A, .arr 2 (rws (Sort.partialInsertionSort (ltC c) d a b).1.toList))] := by
  subst hN
  exact FCall.arr (pis_ok hc d a b hab hb hn) A (by simp [lfA_leaf, lf_ref, lf_int, lf_fn]) (.leaf _ (.fz _ (.bool _))) rfl rfl
theorem peq_F (hc : CmpOk 50 c) (d : Array TItem) (N a b p : Nat) (hN : d.size = N) (ha : a ≤ p) (hp : p < b) (hb : b ≤ N) (hn : N ≤ 4294967296) (A : Nat) : FCall Try.prog 60 [.ref A N 0 N false N, .int .i64 a, .int .i64 b, .int .i64 p, .func (.func 50) [] []] [(A, .arr 2 (rws d.toList))]
    (.int .i64 (Sort.partitionEqual (ltC c) d a b p).1) [(A, .arr 2 (rws (Sort.partitionEqual (ltC c) d a b p).2.toList))] := by
  subst hN
  exact FCall.arr (peq_ok hc d a b p ha hp hb hn) A (by simp [lfA_leaf, lf_ref, lf_int, lf_fn]) (.leaf _ (.fz _ (.int _ _))) rfl rfl
theorem par_F (hc : CmpOk 50 c) (d : Array TItem) (N a b p : Nat) (hN : d.size = N) (ha : a ≤ p) (hp : p < b) (hb : b ≤ N) (hn : N ≤ 4294967296) (A : Nat) : FCall Try.prog 61 [.ref A N 0 N false N, .int .i64 a, .int .i64 b, .int .i64 p, .func (.func 50) [] []] [(A, .arr 2 (rws d.toList))]
    (.tuple [.int .i64 (Sort.partition (ltC c) d a b p).1, .bool (Sort.partition (ltC c) d a b p).2.1]) [(A, .arr 2 (rws (Sort.partition (ltC c) d a b p).2.2.toList))] := by
  subst hN
  exact FCall.arr (par_ok hc d a b p ha hp hb hn) A (by simp [lfA_leaf, lf_ref, lf_int, lf_fn]) (lfA_tup _ _ (by simp [lf_int, lf_bool])) rfl rfl

theorem pdq_ok (hc : CmpOk 50 c) (hw : Sort.SWO (ltC c)) (n : Nat) : ∀ (d : Array TItem) (a b l : Nat), b - a = n → a ≤ b → b ≤ d.size → d.size ≤ 4294967296 → l ≤ 64 → Sort.Below (ltC c) a b d →
    HCall Try.prog 52 [.ref 0 d.size 0 d.size false d.size, .int .i64 a, .int .i64 b, .int .i64 l, .func (.func 50) [] []] [(0, .arr 2 (rws d.toList))] 1
    (fun r h _ => r = .tuple [] ∧ h = [(0, .arr 2 (rws (Sort.pdq (ltC c) d a b l true true).toList))]) := by
  induction n using Nat.strongRecOn with
  | _ n ih =>
  intro d a b l hn0 hab hb hn hl64 hB
  obtain ⟨R, hR⟩ : ∃ R, Sort.pdq (ltC c) d a b l true true = R := ⟨_, rfl⟩
  rw [hR]
  have rec0 : ∀ (d' : Array TItem) (a' b' l' : Nat), b' - a' < n → a' ≤ b' → b' ≤ d'.size → d'.size = d.size → l' ≤ 64 → Sort.Below (ltC c) a' b' d' →
      FCall Try.prog 52 [.ref 0 d.size 0 d.size false d.size, .int .i64 a', .int .i64 b', .int .i64 l', .func (.func 50) [] []] [(0, .arr 2 (rws d'.toList))] (.tuple []) [(0, .arr 2 (rws (Sort.pdq (ltC c) d' a' b' l' true true).toList))] := by
    intro d' a' b' l' h1 h2 h3 h4 h5 h6
    have h7 := ih (b' - a') h1 d' a' b' l' rfl h2 h3 (by omega) h5 h6
    rw [← h4]
    exact FCall.arr h7 0 (by simp [lfA_leaf, lf_ref, lf_int, lf_fn]) (lfA_tup _ _ (by simp)) rfl rfl
  clear ih
  generalize hN : d.size = N at *
  refine HCall_intro (c := Try.f52.body.getD .skip) Try.func52 rfl (by decide +kernel) (W_start ?_)
  simp only [Try.f52, go_sem]
  repeat' first
    | refine Z0 ?_
    | refine Zx ?_
    | (refine Ze ?_; clear hK K)
    | refine W_reg fun K hK => ?_
    | refine W_drwR rfl mixed (by decide +kernel) fun K hK => ?_
    | refine W_drw mixed (by decide +kernel) fun K hK => ?_
    | (refine Zb ?_ ?_ <;> intro hb <;> first | (simp (disch := omega) only [go_sem] at hb; done) | (simp (disch := omega) only [go_sem] at hb; try omega) | try omega)
    | (refine Zl ?_; intro bn hnil; (try simp (disch := omega) only [go_sem] at hnil); dsimp only [putT, List.set_cons_succ, List.set_cons_zero])
  refine W_foldM (fun (q : Nat × Nat × Nat × Bool × Bool × Array TItem) => [none, some (.int .i64 q.1), some (.int .i64 q.2.1), some (.int .i64 q.2.2.1), none, none, none, none, none, none, some (.bool q.2.2.2.1), some (.bool q.2.2.2.2.1), some .junk, some .junk, some .junk, some .junk, some .junk, some .junk, some .junk, some .junk, some .junk, some .junk, some .junk, some .junk, some .junk, some .junk, some .junk, some .junk, some .junk, some .junk, some .junk, some .junk, some .junk, some .junk, some .junk, some .junk, some .junk, some .junk, some .junk, some .junk, some .junk, some .junk, some .junk, some .junk, some .junk, some .junk, some .junk, some .junk, some .junk, some .junk, some .junk, some .junk, some .junk, some .junk, some .junk, some .junk, some .junk, some .junk, some .junk, some .junk, some .junk, some .junk, some .junk, some .junk, some .junk, some .junk, some .junk, some .junk, some .junk, some .junk, some .junk, some .junk, some .junk, some .junk, some .junk, some .junk, some .junk, some .junk, some .junk, some .junk, some .junk, some .junk, some .junk, some .junk, some .junk, some .junk, some .junk, some .junk, some .junk, some .junk, some .junk, some .junk, some .junk, some .junk, some .junk, some .junk, some .junk, some .junk, some .junk, some .junk, some .junk, some .junk, some .junk, some .junk, some .junk, some .junk, some .junk, some .junk, some .junk, some .junk, some .junk, some .junk, some .junk, some .junk, some .junk, some .junk, some .junk, some .junk, some .junk, some .junk, some .junk, some .junk, some .junk, some .junk, some .junk, some .junk, some .junk, some .junk, some .junk, some .junk, some .junk, some .junk, some .junk, some .junk, some .junk, some .junk, some .junk, some .junk, some .junk, some .junk, some .junk, some .junk, some .junk, some .junk, some .junk, some .junk, some .junk, some .junk]) (fun q => [(0, .arr 2 (rws q.2.2.2.2.2.toList))])
    (fun q => q.1 ≤ q.2.1 ∧ q.2.1 ≤ N ∧ q.2.1 - q.1 ≤ n ∧ q.2.2.1 ≤ 64 ∧ q.2.2.2.2.2.size = N ∧ Sort.Below (ltC c) q.1 q.2.1 q.2.2.2.2.2 ∧ Sort.pdq (ltC c) q.2.2.2.2.2 q.1 q.2.1 q.2.2.1 q.2.2.2.1 q.2.2.2.2.1 = R) (fun q => q.2.1 - q.1) (a, b, l, true, true, d) ⟨hab, hb, Nat.le_of_eq hn0, hl64, hN, hB, hR⟩ (by exact weak_mk wkD wkH wkN wkM (by omega)) ?_
  clear hR hN hB hl64 hn0 hab hb
  rintro ⟨a, b, l, wb, wp, d1⟩ ⟨h1, h2, h3, h4, h5, h6, h7⟩
  simp only [] at h1 h2 h3 h4 h5 h6 h7
  simp only [msk_none, msk_some, msk_nil]
  have u0 : (b : Int) - (a : Int) = ((b - a : Nat) : Int) := by omega
  by_cases h12 : b - a ≤ 12
  · rw [Sort.pdq_small h12] at h7
    subst h7
    have c1 := ins_F hc d1 N a b h5 h1 h2 hn 0
    have zz1 := u0
    repeat' first
      | refine Z1 ?_
      | refine Zx ?_
      | refine Zfc c1 ?_
      | (refine Ze ?_; clear hK K)
      | refine W_reg fun K hK => ?_
      | refine W_drwR rfl mixed (by decide +kernel) fun K hK => ?_
      | refine W_drw mixed (by decide +kernel) fun K hK => ?_
      | (refine Zb ?_ ?_ <;> intro hb <;> first | (simp (disch := omega) only [go_sem, zz1] at hb; done) | (simp (disch := omega) only [go_sem, zz1] at hb; try omega) | try omega)
      | (refine Zl ?_; intro bn hnil; (try simp (disch := omega) only [go_sem, zz1] at hnil); dsimp only [putT, List.set_cons_succ, List.set_cons_zero])
    all_goals exact Zrf
  by_cases hl0 : l = 0
  · rw [Sort.pdq_heap h12 hl0] at h7
    subst h7
    have c1 := heap_F hc d1 N a b h5 (by omega) h2 hn 0
    subst hl0
    have zz1 := u0
    repeat' first
      | refine Z1 ?_
      | refine Zx ?_
      | refine Zfc c1 ?_
      | (refine Ze ?_; clear hK K)
      | refine W_reg fun K hK => ?_
      | refine W_drwR rfl mixed (by decide +kernel) fun K hK => ?_
      | refine W_drw mixed (by decide +kernel) fun K hK => ?_
      | (refine Zb ?_ ?_ <;> intro hb <;> first | (simp (disch := omega) only [go_sem, zz1] at hb; done) | (simp (disch := omega) only [go_sem, zz1] at hb; try omega) | try omega)
      | (refine Zl ?_; intro bn hnil; (try simp (disch := omega) only [go_sem, zz1] at hnil); dsimp only [putT, List.set_cons_succ, List.set_cons_zero])
    all_goals exact Zrf
  have F := Sort.rd_facts (limit := l) (wb := wb) (wp := wp) hw Sort.partialInsertionSort_holds Sort.reverseRange_holds (by omega) (by rw [h5]; exact h2) h6
  have Le := Sort.rd_lim_le (lt := ltC c) (d := d1) (a := a) (b := b) (limit := l) (wb := wb) (wp := wp)
  have kf : wb = false → (Sort.rd (ltC c) d1 a b l wb wp).d1 = Sort.breakPatterns d1 a b ∧ (Sort.rd (ltC c) d1 a b l wb wp).lim = l - 1 := fun h => by subst h; exact Sort.rd_false
  have kt : wb = true → (Sort.rd (ltC c) d1 a b l wb wp).d1 = d1 ∧ (Sort.rd (ltC c) d1 a b l wb wp).lim = l := fun h => by subst h; exact Sort.rd_true
  have kc := Sort.rd_c (lt := ltC c) (d := d1) (a := a) (b := b) (limit := l) (wb := wb) (wp := wp)
  have kd := @Sort.rd_dec _ _ (ltC c) d1 a b l wb wp
  have kn := @Sort.rd_not _ _ (ltC c) d1 a b l wb wp
  have ky := @Sort.rd_pi_yes _ _ (ltC c) d1 a b l wb wp
  have ko := @Sort.rd_pi_no _ _ (ltC c) d1 a b l wb wp
  have p1 := @Sort.pdq_done _ _ (ltC c) d1 a b l wb wp h12 hl0
  have p2 := @Sort.pdq_eq _ _ (ltC c) d1 a b l wb wp h12 hl0
  have p3 := @Sort.pdq_left _ _ (ltC c) d1 a b l wb wp h12 hl0
  have p4 := @Sort.pdq_right _ _ (ltC c) d1 a b l wb wp h12 hl0
  rw [h7] at p1 p2 p3 p4
  clear h7
  generalize Sort.rd (ltC c) d1 a b l wb wp = r at *
  obtain ⟨d2, lim, ⟨cp, ch⟩, d3, pv, hint, ⟨d4, pb⟩⟩ := r
  simp only [] at F Le kf kt kc kd kn ky ko p1 p2 p3 p4
  obtain ⟨s1, B1, ⟨hc1, hc2⟩, s2, B2, ⟨hp1, hp2⟩, s3, B3⟩ := F
  rw [h5] at s1 s2 s3
  have zz1 := u0
  repeat' first
    | refine Z1 ?_
    | refine Zx ?_
    | (refine Ze ?_; clear hK K)
    | refine W_regNe 7 (by decide) fun K hK => ?_
    | refine W_drwRNe 7 (by decide) rfl mixed (by decide +kernel) fun K hK => ?_
    | refine W_drwNe 7 (by decide) mixed (by decide +kernel) fun K hK => ?_
    | (refine Zb ?_ ?_ <;> intro hb <;> first | (simp (disch := omega) only [go_sem, zz1] at hb; done) | (simp (disch := omega) only [go_sem, zz1] at hb; try omega) | try omega)
    | (refine Zl ?_; intro bn hnil; (try simp (disch := omega) only [go_sem, zz1] at hnil); dsimp only [putT, List.set_cons_succ, List.set_cons_zero])
  refine W_cutH (fun (_ : Unit) => [none, none, none, some (.int .i64 lim), none, none, none, none, none, none, none, none, none, none, none, none, none, none, none, none, none, none, none, none, none, none, none, none, none, none, none, none, none, none, none, none, none, none, some .junk, some .junk, some .junk, some .junk, some .junk, some .junk, some .junk, some .junk, some .junk]) (fun _ => [(0, .arr 2 (rws d2.toList))]) (fun _ => True) ?_ ?_
  · clear p1 p2 p3 p4
    cases wb with
    | true =>
      obtain ⟨e1, e2⟩ := kt rfl
      subst e1; subst e2
      repeat' first
        | refine Z0 ?_
        | refine Zx ?_
        | (refine Ze ?_; clear hK K)
        | refine W_reg fun K hK => ?_
        | refine W_drwR rfl mixed (by decide +kernel) fun K hK => ?_
        | refine W_drw mixed (by decide +kernel) fun K hK => ?_
        | (refine Zb ?_ ?_ <;> intro hb <;> first | (simp (disch := omega) only [go_sem] at hb; done) | (simp (disch := omega) only [go_sem] at hb; try omega) | try omega)
        | (refine Zl ?_; intro bn hnil; (try simp (disch := omega) only [go_sem] at hnil); dsimp only [putT, List.set_cons_succ, List.set_cons_zero])
      all_goals exact N_cut () trivial (by exact weak_mk wkD wkH wkN wkM (by omega))
    | false =>
      obtain ⟨e1, e2⟩ := kf rfl
      have c1 := brk_F d1 N a b h5 (by omega) h2 hn 0
      rw [← e1] at c1
      have v1 : (l : Int) - 1 = (lim : Int) := by omega
      have zz1 := v1
      repeat' first
        | refine Z1 ?_
        | refine Zx ?_
        | refine Zfc c1 ?_
        | (refine Ze ?_; clear hK K)
        | refine W_reg fun K hK => ?_
        | refine W_drwR rfl mixed (by decide +kernel) fun K hK => ?_
        | refine W_drw mixed (by decide +kernel) fun K hK => ?_
        | (refine Zb ?_ ?_ <;> intro hb <;> first | (simp (disch := omega) only [go_sem, zz1] at hb; done) | (simp (disch := omega) only [go_sem, zz1] at hb; try omega) | try omega)
        | (refine Zl ?_; intro bn hnil; (try simp (disch := omega) only [go_sem, zz1] at hnil); dsimp only [putT, List.set_cons_succ, List.set_cons_zero])
      all_goals exact N_cut () trivial (by exact weak_mk wkD wkH wkN wkM (by omega))
  rintro ⟨⟩ _
  simp only [msk_none, msk_some, msk_nil]
  have c2 := chp_F hc d2 N a b s1 (by omega) h2 hn 0
  rw [← kc] at c2
  simp only [] at c2
  repeat' first
    | refine Z0 ?_
    | refine Zx ?_
    | refine Zfc c2 ?_
    | (refine Ze ?_; clear hK K)
    | refine W_regNe 11 (by decide) fun K hK => ?_
    | refine W_drwRNe 11 (by decide) rfl mixed (by decide +kernel) fun K hK => ?_
    | refine W_drwNe 11 (by decide) mixed (by decide +kernel) fun K hK => ?_
    | (refine Zb ?_ ?_ <;> intro hb <;> first | (simp (disch := omega) only [go_sem] at hb; done) | (simp (disch := omega) only [go_sem] at hb; try omega) | try omega)
    | (refine Zl ?_; intro bn hnil; (try simp (disch := omega) only [go_sem] at hnil); dsimp only [putT, List.set_cons_succ, List.set_cons_zero])
  refine W_cutH (fun (_ : Unit) => [none, none, none, none, none, none, none, none, none, none, none, none, none, some (.int .i64 pv), some (.int .i64 (hintN hint)), none, none, none, none, none, none, none, none, none, none, none, none, none, none, none, none, none, none, none, none, none, none, none, none, none, none, none, none, none, none, none, none, none, none, none, none, none, none, none, none, some .junk, some .junk, some .junk, some .junk, some .junk, some .junk, some .junk, some .junk, some .junk, some .junk, some .junk, some .junk, some .junk]) (fun _ => [(0, .arr 2 (rws d3.toList))]) (fun _ => True) ?_ ?_
  · clear p1 p2 p3 p4
    by_cases hd : ch = .decreasing
    · obtain ⟨e1, e2, e3⟩ := kd hd
      subst hd; subst e3
      have c3 := rev_F d2 N a b s1 (by omega) h2 hn 0
      rw [← e1] at c3
      have g1 : hintN .decreasing = 2 := rfl
      have g2 : hintN .increasing = 1 := rfl
      have v1 : (b : Int) - 1 - ((cp : Int) - (a : Int)) = (pv : Int) := by omega
      rw [g1, g2]
      have zz1 := v1
      repeat' first
        | refine Z1 ?_
        | refine Zx ?_
        | refine Zfc c3 ?_
        | (refine Ze ?_; clear hK K)
        | refine W_reg fun K hK => ?_
        | refine W_drwR rfl mixed (by decide +kernel) fun K hK => ?_
        | refine W_drw mixed (by decide +kernel) fun K hK => ?_
        | (refine Zb ?_ ?_ <;> intro hb <;> first | (simp (disch := omega) only [go_sem, zz1] at hb; done) | (simp (disch := omega) only [go_sem, zz1] at hb; try omega) | try omega)
        | (refine Zl ?_; intro bn hnil; (try simp (disch := omega) only [go_sem, zz1] at hnil); dsimp only [putT, List.set_cons_succ, List.set_cons_zero])
      all_goals exact N_cut () trivial (by exact weak_mk wkD wkH wkN wkM (by omega))
    · obtain ⟨e1, e2, e3⟩ := kn hd
      subst e1; subst e2; subst e3
      cases hint with
      | decreasing => exact absurd rfl hd
      | increasing =>
        have g2 : hintN .increasing = 1 := rfl
        rw [g2]
        repeat' first
          | refine Z0 ?_
          | refine Zx ?_
          | (refine Ze ?_; clear hK K)
          | refine W_reg fun K hK => ?_
          | refine W_drwR rfl mixed (by decide +kernel) fun K hK => ?_
          | refine W_drw mixed (by decide +kernel) fun K hK => ?_
          | (refine Zb ?_ ?_ <;> intro hb <;> first | (simp (disch := omega) only [go_sem] at hb; done) | (simp (disch := omega) only [go_sem] at hb; try omega) | try omega)
          | (refine Zl ?_; intro bn hnil; (try simp (disch := omega) only [go_sem] at hnil); dsimp only [putT, List.set_cons_succ, List.set_cons_zero])
        all_goals exact N_cut () trivial (by exact weak_mk wkD wkH wkN wkM (by omega))
      | unknown =>
        have g2 : hintN .unknown = 0 := rfl
        rw [g2]
        repeat' first
          | refine Z0 ?_
          | refine Zx ?_
          | (refine Ze ?_; clear hK K)
          | refine W_reg fun K hK => ?_
          | refine W_drwR rfl mixed (by decide +kernel) fun K hK => ?_
          | refine W_drw mixed (by decide +kernel) fun K hK => ?_
          | (refine Zb ?_ ?_ <;> intro hb <;> first | (simp (disch := omega) only [go_sem] at hb; done) | (simp (disch := omega) only [go_sem] at hb; try omega) | try omega)
          | (refine Zl ?_; intro bn hnil; (try simp (disch := omega) only [go_sem] at hnil); dsimp only [putT, List.set_cons_succ, List.set_cons_zero])
        all_goals exact N_cut () trivial (by exact weak_mk wkD wkH wkN wkM (by omega))
  rintro ⟨⟩ _
  simp only [msk_none, msk_some, msk_nil]
  have c4 := pis_F hc d3 N a b s2 (by omega) h2 hn 0
  by_cases hdone : pb = true
  · subst hdone
    have p1' := p1 rfl
    subst p1'
    have hcb : (wb && wp && decide (hint = .increasing)) = true := by
      cases hcb : (wb && wp && decide (hint = .increasing)) with
      | true => rfl
      | false => have := ko hcb; cases this
    have ky' := ky hcb
    simp only [Bool.and_eq_true, decide_eq_true_eq] at hcb
    obtain ⟨⟨q1, q2⟩, q3⟩ := hcb
    subst q1; subst q2; subst q3
    have g2 : hintN .increasing = 1 := rfl
    rw [← ky'] at c4
    simp only [] at c4
    rw [g2]
    repeat' first
      | refine Z0 ?_
      | refine Zx ?_
      | refine Zfc c4 ?_
      | (refine Ze ?_; clear hK K)
      | refine W_reg fun K hK => ?_
      | refine W_drwR rfl mixed (by decide +kernel) fun K hK => ?_
      | refine W_drw mixed (by decide +kernel) fun K hK => ?_
      | (refine Zb ?_ ?_ <;> intro hb <;> first | (simp (disch := omega) only [go_sem] at hb; done) | (simp (disch := omega) only [go_sem] at hb; try omega) | try omega)
      | (refine Zl ?_; intro bn hnil; (try simp (disch := omega) only [go_sem] at hnil); dsimp only [putT, List.set_cons_succ, List.set_cons_zero])
    all_goals exact Zrf
  have hpb : pb = false := by simpa using hdone
  subst hpb
  repeat' first
    | refine Z0 ?_
    | refine Zx ?_
    | (refine Ze ?_; clear hK K)
    | refine W_regNe 15 (by decide) fun K hK => ?_
    | refine W_drwRNe 15 (by decide) rfl mixed (by decide +kernel) fun K hK => ?_
    | refine W_drwNe 15 (by decide) mixed (by decide +kernel) fun K hK => ?_
    | (refine Zb ?_ ?_ <;> intro hb <;> first | (simp (disch := omega) only [go_sem] at hb; done) | (simp (disch := omega) only [go_sem] at hb; try omega) | try omega)
    | (refine Zl ?_; intro bn hnil; (try simp (disch := omega) only [go_sem] at hnil); dsimp only [putT, List.set_cons_succ, List.set_cons_zero])
  refine W_cutH (fun (_ : Unit) => [none, none, none, none, none, none, none, none, none, none, none, none, none, none, none, none, none, none, none, none, none, none, none, none, none, none, none, none, none, none, none, none, none, none, none, none, none, none, none, none, none, none, none, none, none, none, none, none, none, none, none, none, none, none, none, none, none, none, none, none, none, none, none, none, none, none, none, none, some .junk, some .junk, some .junk, some .junk, some .junk, some .junk, some .junk, some .junk, some .junk, some .junk, some .junk, some .junk, some .junk]) (fun _ => [(0, .arr 2 (rws d4.toList))]) (fun _ => True) ?_ ?_
  · clear p1 p2 p3 p4
    cases hcb : (wb && wp && decide (hint = .increasing)) with
    | true =>
      have ky' := ky hcb
      simp only [Bool.and_eq_true, decide_eq_true_eq] at hcb
      obtain ⟨⟨q1, q2⟩, q3⟩ := hcb
      subst q1; subst q2; subst q3
      have g2 : hintN .increasing = 1 := rfl
      rw [← ky'] at c4
      simp only [] at c4
      rw [g2]
      repeat' first
        | refine Z0 ?_
        | refine Zx ?_
        | refine Zfc c4 ?_
        | (refine Ze ?_; clear hK K)
        | refine W_reg fun K hK => ?_
        | refine W_drwR rfl mixed (by decide +kernel) fun K hK => ?_
        | refine W_drw mixed (by decide +kernel) fun K hK => ?_
        | (refine Zb ?_ ?_ <;> intro hb <;> first | (simp (disch := omega) only [go_sem] at hb; done) | (simp (disch := omega) only [go_sem] at hb; try omega) | try omega)
        | (refine Zl ?_; intro bn hnil; (try simp (disch := omega) only [go_sem] at hnil); dsimp only [putT, List.set_cons_succ, List.set_cons_zero])
      all_goals exact N_cut () trivial (by exact weak_mk wkD wkH wkN wkM (by omega))
    | false =>
      have ko' := ko hcb
      have e1 : d4 = d3 := congrArg Prod.fst ko'
      subst e1
      cases wb with
      | false =>
        repeat' first
          | refine Z0 ?_
          | refine Zx ?_
          | (refine Ze ?_; clear hK K)
          | refine W_reg fun K hK => ?_
          | refine W_drwR rfl mixed (by decide +kernel) fun K hK => ?_
          | refine W_drw mixed (by decide +kernel) fun K hK => ?_
          | (refine Zb ?_ ?_ <;> intro hb <;> first | (simp (disch := omega) only [go_sem] at hb; done) | (simp (disch := omega) only [go_sem] at hb; try omega) | try omega)
          | (refine Zl ?_; intro bn hnil; (try simp (disch := omega) only [go_sem] at hnil); dsimp only [putT, List.set_cons_succ, List.set_cons_zero])
        all_goals exact N_cut () trivial (by exact weak_mk wkD wkH wkN wkM (by omega))
      | true =>
        cases wp with
        | false =>
          repeat' first
            | refine Z0 ?_
            | refine Zx ?_
            | (refine Ze ?_; clear hK K)
            | refine W_reg fun K hK => ?_
            | refine W_drwR rfl mixed (by decide +kernel) fun K hK => ?_
            | refine W_drw mixed (by decide +kernel) fun K hK => ?_
            | (refine Zb ?_ ?_ <;> intro hb <;> first | (simp (disch := omega) only [go_sem] at hb; done) | (simp (disch := omega) only [go_sem] at hb; try omega) | try omega)
            | (refine Zl ?_; intro bn hnil; (try simp (disch := omega) only [go_sem] at hnil); dsimp only [putT, List.set_cons_succ, List.set_cons_zero])
          all_goals exact N_cut () trivial (by exact weak_mk wkD wkH wkN wkM (by omega))
        | true =>
          cases hint with
          | increasing => cases hcb
          | decreasing =>
            have g2 : hintN .decreasing = 2 := rfl
            rw [g2]
            repeat' first
              | refine Z0 ?_
              | refine Zx ?_
              | (refine Ze ?_; clear hK K)
              | refine W_reg fun K hK => ?_
              | refine W_drwR rfl mixed (by decide +kernel) fun K hK => ?_
              | refine W_drw mixed (by decide +kernel) fun K hK => ?_
              | (refine Zb ?_ ?_ <;> intro hb <;> first | (simp (disch := omega) only [go_sem] at hb; done) | (simp (disch := omega) only [go_sem] at hb; try omega) | try omega)
              | (refine Zl ?_; intro bn hnil; (try simp (disch := omega) only [go_sem] at hnil); dsimp only [putT, List.set_cons_succ, List.set_cons_zero])
            all_goals exact N_cut () trivial (by exact weak_mk wkD wkH wkN wkM (by omega))
          | unknown =>
            have g2 : hintN .unknown = 0 := rfl
            rw [g2]
            repeat' first
              | refine Z0 ?_
              | refine Zx ?_
              | (refine Ze ?_; clear hK K)
              | refine W_reg fun K hK => ?_
              | refine W_drwR rfl mixed (by decide +kernel) fun K hK => ?_
              | refine W_drw mixed (by decide +kernel) fun K hK => ?_
              | (refine Zb ?_ ?_ <;> intro hb <;> first | (simp (disch := omega) only [go_sem] at hb; done) | (simp (disch := omega) only [go_sem] at hb; try omega) | try omega)
              | (refine Zl ?_; intro bn hnil; (try simp (disch := omega) only [go_sem] at hnil); dsimp only [putT, List.set_cons_succ, List.set_cons_zero])
            all_goals exact N_cut () trivial (by exact weak_mk wkD wkH wkN wkM (by omega))
  rintro ⟨⟩ _
  simp only [msk_none, msk_some, msk_nil]
  clear ky ko kn kd kc kf kt c2 c4 p1
  have hl4 := srl d4
  rw [s3] at hl4
  have h2' : b ≤ d4.size := by rw [s3]; exact h2
  by_cases hq : a > 0 ∧ ¬ c d4[a - 1]! d4[pv]! < 0
  · have hq0 := hq.1
    have hq1 := hq.2
    have c1 := hc d4[a - 1]! d4[pv]!
    have y1 := sget d4 (i := a - 1) (by omega)
    have y2 := sget d4 (i := pv) (by omega)
    have v1 : (a : Int) - 1 = ((a - 1 : Nat) : Int) := by omega
    have c5 := peq_F hc d4 N a b pv s3 hp1 hp2 h2 hn 0
    obtain ⟨E, hE⟩ : ∃ E, Sort.partitionEqual (ltC c) d4 a b pv = E := ⟨_, rfl⟩
    obtain ⟨mid, d5⟩ := E
    obtain ⟨f1, f2, f3, f4, _⟩ := Sort.round_eq hw (Sort.partitionEqual_holds _) hq0 hp1 hp2 h2' B3 (by simpa using hq1) hE
    have p2' := p2 rfl (by simp [hq0, hq1])
    rw [hE] at c5 p2'
    simp only [] at c5 p2'
    have p2'' := p2' ⟨f1, f2⟩
    have zz1 := y1
    have zz2 := y2
    have zz3 := hl4
    have zz4 := v1
    repeat' first
      | refine Z4 ?_
      | refine Zx ?_
      | refine Zc c1 ?_
      | refine Zfc c5 ?_
      | (refine Ze ?_; clear hK K)
      | refine W_reg fun K hK => ?_
      | refine W_drwR rfl mixed (by decide +kernel) fun K hK => ?_
      | refine W_drw mixed (by decide +kernel) fun K hK => ?_
      | (refine Zb ?_ ?_ <;> intro hb <;> first | (simp (disch := omega) only [go_sem, zz1, zz2, zz3, zz4] at hb; done) | (simp (disch := omega) only [go_sem, zz1, zz2, zz3, zz4] at hb; try omega) | try omega)
      | (refine Zl ?_; intro bn hnil; (try simp (disch := omega) only [go_sem, zz1, zz2, zz3, zz4] at hnil); dsimp only [putT, List.set_cons_succ, List.set_cons_zero])
    all_goals exact L_next ⟨(mid, b, lim, wb, wp, d5), by simp only []; omega, ⟨f2, h2, by simp only []; omega, by simp only []; omega, by rw [f3]; exact s3, f4, p2''.symm⟩, (by exact weak_mk wkD wkH wkN wkM (by omega))⟩
  · have hqf : (decide (a > 0) && !ltC c d4[a - 1]! d4[pv]!) = false := by
      cases hz : (decide (a > 0) && !ltC c d4[a - 1]! d4[pv]!) with
      | false => rfl
      | true => exact absurd (by simpa using hz) hq
    obtain ⟨E, hE⟩ : ∃ E, Sort.partition (ltC c) d4 a b pv = E := ⟨_, rfl⟩
    obtain ⟨mid, ap, d5⟩ := E
    obtain ⟨f1, f2, f3, f4, f5, f6, f7⟩ := Sort.round_part hw (Sort.partition_holds _) hp1 hp2 h2' B3 hE
    have c5 := par_F hc d4 N a b pv s3 hp1 hp2 h2 hn 0
    have p3' := p3 rfl hqf
    have p4' := p4 rfl hqf
    rw [hE] at c5 p3' p4'
    simp only [] at c5 p3' p4'
    have p3a := p3' ⟨f1, f2⟩
    have p4a := p4' ⟨f1, f2⟩
    clear p3 p4 p3' p4' p2
    repeat' first
      | refine Z0 ?_
      | refine Zx ?_
      | (refine Ze ?_; clear hK K)
      | refine W_regNe 17 (by decide) fun K hK => ?_
      | refine W_drwRNe 17 (by decide) rfl mixed (by decide +kernel) fun K hK => ?_
      | refine W_drwNe 17 (by decide) mixed (by decide +kernel) fun K hK => ?_
      | (refine Zb ?_ ?_ <;> intro hb <;> first | (simp (disch := omega) only [go_sem] at hb; done) | (simp (disch := omega) only [go_sem] at hb; try omega) | try omega)
      | (refine Zl ?_; intro bn hnil; (try simp (disch := omega) only [go_sem] at hnil); dsimp only [putT, List.set_cons_succ, List.set_cons_zero])
    refine W_cutM (γ := Unit) (fun _ => [none, none, none, none, none, none, none, none, none, none, none, none, none, none, none, none, none, none, none, none, none, none, none, none, none, none, none, none, none, none, none, none, none, none, none, none, none, none, none, none, none, none, none, none, none, none, none, none, none, none, none, none, none, none, none, none, none, none, none, none, none, none, none, none, none, none, none, none, none, none, none, none, none, none, none, none, none, none, none, none, none, some .junk, some .junk, some .junk, some .junk, some .junk, some .junk, some .junk, some .junk, some .junk, some .junk, some .junk, some .junk, some .junk, some .junk, some .junk, some .junk, some (.bool false)]) (fun _ => True) ?_ ?_
    · clear p3a p4a c5 f6 f7
      by_cases ha0 : a > 0
      · have hq1 : c d4[a - 1]! d4[pv]! < 0 := by
          rcases Int.lt_or_le (c d4[a - 1]! d4[pv]!) 0 with h | h
          · exact h
          · exact absurd ⟨ha0, by omega⟩ hq
        have c1 := hc d4[a - 1]! d4[pv]!
        have y1 := sget d4 (i := a - 1) (by omega)
        have y2 := sget d4 (i := pv) (by omega)
        have v1 : (a : Int) - 1 = ((a - 1 : Nat) : Int) := by omega
        have zz1 := y1
        have zz2 := y2
        have zz3 := hl4
        have zz4 := v1
        repeat' first
          | refine Z4 ?_
          | refine Zx ?_
          | refine Zc c1 ?_
          | (refine Ze ?_; clear hK K)
          | refine W_reg fun K hK => ?_
          | refine W_drwR rfl mixed (by decide +kernel) fun K hK => ?_
          | refine W_drw mixed (by decide +kernel) fun K hK => ?_
          | (refine Zb ?_ ?_ <;> intro hb <;> first | (simp (disch := omega) only [go_sem, zz1, zz2, zz3, zz4] at hb; done) | (simp (disch := omega) only [go_sem, zz1, zz2, zz3, zz4] at hb; try omega) | try omega)
          | (refine Zl ?_; intro bn hnil; (try simp (disch := omega) only [go_sem, zz1, zz2, zz3, zz4] at hnil); dsimp only [putT, List.set_cons_succ, List.set_cons_zero])
        all_goals exact N_cut () trivial (by exact weak_mk wkD wkH wkN wkM (by omega))
      · obtain rfl : a = 0 := by omega
        repeat' first
          | refine Z0 ?_
          | refine Zx ?_
          | (refine Ze ?_; clear hK K)
          | refine W_reg fun K hK => ?_
          | refine W_drwR rfl mixed (by decide +kernel) fun K hK => ?_
          | refine W_drw mixed (by decide +kernel) fun K hK => ?_
          | (refine Zb ?_ ?_ <;> intro hb <;> first | (simp (disch := omega) only [go_sem] at hb; done) | (simp (disch := omega) only [go_sem] at hb; try omega) | try omega)
          | (refine Zl ?_; intro bn hnil; (try simp (disch := omega) only [go_sem] at hnil); dsimp only [putT, List.set_cons_succ, List.set_cons_zero])
        all_goals exact N_cut () trivial (by exact weak_mk wkD wkH wkN wkM (by omega))
    rintro ⟨⟩ _
    simp only [msk_none, msk_some, msk_nil]
    have f3' : d5.size = N := f3.trans s3
    have w1 : (mid : Int) - (a : Int) = ((mid - a : Nat) : Int) := by omega
    have w2 : (b : Int) - (mid : Int) = ((b - mid : Nat) : Int) := by omega
    have w3 : ((b - a : Nat) : Int).tdiv 8 = (((b - a) / 8 : Nat) : Int) := by
      rw [Int.tdiv_eq_ediv_of_nonneg (by omega)]; omega
    have w4 : (mid : Int) + 1 = ((mid + 1 : Nat) : Int) := by omega
    have hg0 : (b - a) / 8 ≤ N := by omega
    have hg1 : mid - a ≤ n := by omega
    have hg2 : b - mid ≤ n := by omega
    by_cases hlr : mid - a < b - mid
    · have p3b := p3a hlr
      have c6 := rec0 d5 a mid lim (by omega) f1 (by omega) f3' (by omega) f4
      have S := Sort.pdq_sorts (ltC c) hw d5 a mid lim true true f1 (by omega) f4
      obtain ⟨z1, _⟩ := f6 _ S.1 S.2
      have zs := S.1.1
      generalize Sort.pdq (ltC c) d5 a mid lim true true = d6 at *
      cases hbal : decide (mid - a ≥ (b - a) / 8) with
      | true =>
        rw [hbal] at p3b
        have hbal := of_decide_eq_true hbal
        generalize (b - a) / 8 = bt at *
        have zz1 := w1
        have zz2 := w2
        have zz3 := w3
        have zz4 := w4
        repeat' first
          | refine Z4 ?_
          | refine Zx ?_
          | refine Zfc c5 ?_
          | refine Zfc c6 ?_
          | (refine Ze ?_; clear hK K)
          | refine W_reg fun K hK => ?_
          | refine W_drwR rfl mixed (by decide +kernel) fun K hK => ?_
          | refine W_drw mixed (by decide +kernel) fun K hK => ?_
          | (refine Zb ?_ ?_ <;> intro hb <;> first | (simp (disch := omega) only [go_sem, zz1, zz2, zz3, zz4] at hb; done) | (simp (disch := omega) only [go_sem, zz1, zz2, zz3, zz4] at hb; try omega) | try omega)
          | (refine Zl ?_; intro bn hnil; (try simp (disch := omega) only [go_sem, zz1, zz2, zz3, zz4] at hnil); dsimp only [putT, List.set_cons_succ, List.set_cons_zero])
        all_goals exact L_next ⟨(mid + 1, b, lim, true, ap, d6), by simp only []; omega, ⟨f2, h2, by simp only []; omega, by simp only []; omega, zs.trans f3', z1, p3b.symm⟩, (by exact weak_mk wkD wkH wkN wkM (by omega))⟩
      | false =>
        rw [hbal] at p3b
        have hbal := of_decide_eq_false hbal
        generalize (b - a) / 8 = bt at *
        have zz1 := w1
        have zz2 := w2
        have zz3 := w3
        have zz4 := w4
        repeat' first
          | refine Z4 ?_
          | refine Zx ?_
          | refine Zfc c5 ?_
          | refine Zfc c6 ?_
          | (refine Ze ?_; clear hK K)
          | refine W_reg fun K hK => ?_
          | refine W_drwR rfl mixed (by decide +kernel) fun K hK => ?_
          | refine W_drw mixed (by decide +kernel) fun K hK => ?_
          | (refine Zb ?_ ?_ <;> intro hb <;> first | (simp (disch := omega) only [go_sem, zz1, zz2, zz3, zz4] at hb; done) | (simp (disch := omega) only [go_sem, zz1, zz2, zz3, zz4] at hb; try omega) | try omega)
          | (refine Zl ?_; intro bn hnil; (try simp (disch := omega) only [go_sem, zz1, zz2, zz3, zz4] at hnil); dsimp only [putT, List.set_cons_succ, List.set_cons_zero])
        all_goals exact L_next ⟨(mid + 1, b, lim, false, ap, d6), by simp only []; omega, ⟨f2, h2, by simp only []; omega, by simp only []; omega, zs.trans f3', z1, p3b.symm⟩, (by exact weak_mk wkD wkH wkN wkM (by omega))⟩
    · have p4b := p4a hlr
      have c6 := rec0 d5 (mid + 1) b lim (by omega) f2 (by omega) f3' (by omega) f5
      have S := Sort.pdq_sorts (ltC c) hw d5 (mid + 1) b lim true true f2 (by omega) f5
      obtain ⟨z1, _⟩ := f7 _ S.1 S.2
      have zs := S.1.1
      generalize Sort.pdq (ltC c) d5 (mid + 1) b lim true true = d6 at *
      cases hbal : decide (b - mid ≥ (b - a) / 8) with
      | true =>
        rw [hbal] at p4b
        have hbal := of_decide_eq_true hbal
        generalize (b - a) / 8 = bt at *
        have zz1 := w1
        have zz2 := w2
        have zz3 := w3
        have zz4 := w4
        repeat' first
          | refine Z4 ?_
          | refine Zx ?_
          | refine Zfc c5 ?_
          | refine Zfc c6 ?_
          | (refine Ze ?_; clear hK K)
          | refine W_reg fun K hK => ?_
          | refine W_drwR rfl mixed (by decide +kernel) fun K hK => ?_
          | refine W_drw mixed (by decide +kernel) fun K hK => ?_
          | (refine Zb ?_ ?_ <;> intro hb <;> first | (simp (disch := omega) only [go_sem, zz1, zz2, zz3, zz4] at hb; done) | (simp (disch := omega) only [go_sem, zz1, zz2, zz3, zz4] at hb; try omega) | try omega)
          | (refine Zl ?_; intro bn hnil; (try simp (disch := omega) only [go_sem, zz1, zz2, zz3, zz4] at hnil); dsimp only [putT, List.set_cons_succ, List.set_cons_zero])
        all_goals exact L_next ⟨(a, mid, lim, true, ap, d6), by simp only []; omega, ⟨f1, by simp only []; omega, by simp only []; omega, by simp only []; omega, zs.trans f3', z1, p4b.symm⟩, (by exact weak_mk wkD wkH wkN wkM (by omega))⟩
      | false =>
        rw [hbal] at p4b
        have hbal := of_decide_eq_false hbal
        generalize (b - a) / 8 = bt at *
        have zz1 := w1
        have zz2 := w2
        have zz3 := w3
        have zz4 := w4
        repeat' first
          | refine Z4 ?_
          | refine Zx ?_
          | refine Zfc c5 ?_
          | refine Zfc c6 ?_
          | (refine Ze ?_; clear hK K)
          | refine W_reg fun K hK => ?_
          | refine W_drwR rfl mixed (by decide +kernel) fun K hK => ?_
          | refine W_drw mixed (by decide +kernel) fun K hK => ?_
          | (refine Zb ?_ ?_ <;> intro hb <;> first | (simp (disch := omega) only [go_sem, zz1, zz2, zz3, zz4] at hb; done) | (simp (disch := omega) only [go_sem, zz1, zz2, zz3, zz4] at hb; try omega) | try omega)
          | (refine Zl ?_; intro bn hnil; (try simp (disch := omega) only [go_sem, zz1, zz2, zz3, zz4] at hnil); dsimp only [putT, List.set_cons_succ, List.set_cons_zero])
        all_goals exact L_next ⟨(a, mid, lim, false, ap, d6), by simp only []; omega, ⟨f1, by simp only []; omega, by simp only []; omega, by simp only []; omega, zs.trans f3', z1, p4b.symm⟩, (by exact weak_mk wkD wkH wkN wkM (by omega))⟩

theorem pdq_F (hc : CmpOk 50 c) (hw : Sort.SWO (ltC c)) (d : Array TItem) (N l : Nat) (hN : d.size = N) (hn : N ≤ 4294967296) (hl : l ≤ 64) (A : Nat) : FCall Try.prog 52 [.ref A N 0 N false N, .int .i64 0, .int .i64 N, .int .i64 l, .func (.func 50) [] []] [(A, .arr 2 (rws d.toList))]
    (.tuple []) [(A, .arr 2 (rws (Sort.pdq (ltC c) d 0 N l true true).toList))] := by
  subst hN
  exact FCall.arr (pdq_ok hc hw _ d 0 d.size l rfl (Nat.zero_le _) (Nat.le_refl _) hn hl (Or.inl rfl)) A (by simp [lfA_leaf, lf_ref, lf_int, lf_fn]) (lfA_tup _ _ (by simp)) rfl rfl

/-- slices.SortFunc over an array of that many items. -/
theorem sort_ok (hc : CmpOk 50 c) (hw : Sort.SWO (ltC c)) (d : Array TItem) (hn : d.size ≤ 4294967296) : HCall Try.prog 49 [.ref 0 d.size 0 d.size false d.size, .func (.func 50) [] []] [(0, .arr 2 (rws d.toList))] 1
    (fun r h _ => r = .tuple [] ∧ h = [(0, .arr 2 (rws (Sort.sort (ltC c) d).toList))]) := by
  unfold Sort.sort
  have c1 := len_ok d.size hn
  have e4 := bitsLen_le33 d.size hn
  have c2 := pdq_F hc hw d d.size (Sort.bitsLen d.size) rfl hn (by omega) 0
  have u1 : IntKind.u64.wrap (d.size : Int) = (d.size : Int) := by rw [IntKind.wrap_u64]; omega
  generalize Sort.bitsLen d.size = l at *
  generalize hN : d.size = N at *
  refine HCall_intro (c := Try.f49.body.getD .skip) Try.func49 rfl (by decide +kernel) (W_start ?_)
  simp only [Try.f49, go_sem]
  have zz1 := u1
  repeat' first
    | refine Z1 ?_
    | refine Zx ?_
    | refine Zc c1 ?_
    | refine Zfc c2 ?_
    | (refine Ze ?_; clear hK K)
    | refine W_reg fun K hK => ?_
    | refine W_drwR rfl mixed (by decide +kernel) fun K hK => ?_
    | refine W_drw mixed (by decide +kernel) fun K hK => ?_
    | (refine Zb ?_ ?_ <;> intro hb <;> first | (simp (disch := omega) only [go_sem, zz1] at hb; done) | (simp (disch := omega) only [go_sem, zz1] at hb; try omega) | try omega)
    | (refine Zl ?_; intro bn hnil; (try simp (disch := omega) only [go_sem, zz1] at hnil); dsimp only [putT, List.set_cons_succ, List.set_cons_zero])
  all_goals exact Zrf

theorem sort_F (hc : CmpOk 50 c) (hw : Sort.SWO (ltC c)) (d : Array TItem) (N : Nat) (hN : d.size = N) (hn : N ≤ 4294967296) (A : Nat) : FCall Try.prog 49 [.ref A N 0 N false N, .func (.func 50) [] []] [(A, .arr 2 (rws d.toList))]
    (.tuple []) [(A, .arr 2 (rws (Sort.sort (ltC c) d).toList))] := by
  subst hN
  exact FCall.arr (sort_ok hc hw d hn) A (by simp [lfA_leaf, lf_ref, lf_int, lf_fn]) (lfA_tup _ _ (by simp)) rfl rfl

end
end Go.Proofs.Ytfbmbjfcgoahfaa
