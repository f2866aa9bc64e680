/-
  The heap: up, down, Push, Peek, Get, Len, Remove, Pop, Change, New; walked.
-/
import Derived.Test.YtfbmbjfcgoahfaaF1
namespace Go.Proofs.Ytfbmbjfcgoahfaa
open Go Go.AM
set_option maxHeartbeats 4000000
set_option maxRecDepth 8000
set_option linter.unusedSimpArgs false
set_option linter.unusedVariables false

theorem ty91 : tab Try.prog 91 = some ⟨.array 2 3, 2, 16, .agg [.int .i64 0, .int .i64 0]⟩ := by kernel_rfl
attribute [go_sem] ty91

theorem num3_inj {H a m : Nat} (h1 : H ≠ a) (h2 : H ≠ m) (h3 : a ≠ m) (i j : Nat) (hi : i ∈ [2, 1, 0]) (hj : j ∈ [2, 1, 0]) (e : num3 H a m i = num3 H a m j) : i = j := by
  simp only [List.mem_cons, List.not_mem_nil, or_false] at hi hj
  rcases hi with rfl | rfl | rfl <;> rcases hj with rfl | rfl | rfl <;> simp only [num3] at e <;> first | rfl | omega

theorem hobs_lf (s : HS) : ∀ e, e ∈ hobs 0 1 2 s → LfO (fun i => i ∈ [2, 1, 0]) e.2 := by
  intro e he
  simp only [List.mem_cons, List.not_mem_nil, or_false] at he
  rcases he with rfl | rfl | rfl
  · simp [lfO_mpe]
  · simp [lfO_rws]
  · simp [lfO_row, lf_ref, lf_mapv]

/-- A function over a heap, wherever its objects lie. -/
theorem FCall.heap {g : FuncId} {args0 args : List AVal} {r0 r : AVal} {s s' : HS} (hc : HCall Try.prog g args0 (hobs 0 1 2 s) 3 fun r h _ => r = r0 ∧ h = hobs 0 1 2 s') {H a m : Nat} (hne : H ≠ a ∧ H ≠ m ∧ a ≠ m)
    (ha : ∀ x, x ∈ args0 → LfA (fun i => i ∈ [2, 1, 0]) x) (hr : LfA (fun i => i ∈ [2, 1, 0]) r0) (ea : args0.map (renA (num3 H a m)) = args) (er : renA (num3 H a m) r0 = r) : FCall Try.prog g args (hobs H a m s) r (hobs H a m s') := by
  refine FCall.of (f := num3 H a m) hc rfl (by simp) (fun e he => ?_) (num3_inj hne.1 hne.2.1 hne.2.2) (hobs_lf s) (hobs_lf s') hr ha ea ?_ ?_ er
  · simp only [List.mem_cons, List.not_mem_nil, or_false] at he
    rcases he with rfl | rfl | rfl <;> simp
  · simp only [hobs, hrow, renH, renO, ren_rws, ren0, num3, List.map_cons, List.map_nil]
  · simp only [hobs, hrow, renH, renO, ren_rws, ren0, num3, List.map_cons, List.map_nil]

theorem swap_F (s : HS) (g : Good s) (i k : Nat) (hi : i < s.n) (hk : k < s.n) (hne : i ≠ k) {H a m : Nat} (hd : H ≠ a ∧ H ≠ m ∧ a ≠ m) :
    FCall Try.prog 43 [.ptr H 1 0 0, .int .i64 i, .int .i64 k] (hobs H a m s) (.tuple []) (hobs H a m (swp s i k)) :=
  FCall.heap (swap0_ok s g i k hi hk hne) hd (by simp [lfA_leaf, lf_ptr, lf_int]) (lfA_tup _ _ (by simp)) rfl rfl

theorem swapS_F (s : HS) (g : Good s) (i : Nat) (hi : i < s.n) {H a m : Nat} (hd : H ≠ a ∧ H ≠ m ∧ a ≠ m) :
    FCall Try.prog 43 [.ptr H 1 0 0, .int .i64 i, .int .i64 i] (hobs H a m s) (.tuple []) (hobs H a m s) :=
  FCall.heap (swap1_ok s g i hi) hd (by simp [lfA_leaf, lf_ptr, lf_int]) (lfA_tup _ _ (by simp)) rfl rfl

theorem up0_ok (s : HS) (g : Good s) (i : Nat) (hi : i < s.n) :
    HCall Try.prog 42 [.ptr 0 1 0 0, .int .i64 i] (hobs 0 1 2 s) 3 (fun r h _ => r = .tuple [] ∧ h = hobs 0 1 2 (upS s i)) := by
  refine HCall_intro (c := Try.f42.body.getD .skip) Try.func42 rfl (by decide +kernel) (W_start ?_)
  simp only [Try.f42, go_sem]
  repeat' first
    | refine Z0 ?_
    | refine Zx ?_
    | (refine Ze ?_; clear hK K)
    | refine W_reg fun K hK => ?_
    | refine W_drwR rfl mixed (by decide +kernel) fun K hK => ?_
    | refine W_drw mixed (by decide +kernel) fun K hK => ?_
    | (refine Zb ?_ ?_ <;> intro hb <;> first | (simp (disch := omega) only [go_sem] at hb; done) | (simp (disch := omega) only [go_sem] at hb; try omega) | try omega)
    | (refine Zl ?_; intro bn hnil; (try simp (disch := omega) only [go_sem] at hnil); dsimp only [putT, List.set_cons_succ, List.set_cons_zero])
  refine W_foldM (fun (a : HS × Nat) => [none, some (.int .i64 a.2), none, none, some .junk, some .junk, some .junk, some .junk, some .junk, some .junk, some .junk, some .junk, some .junk, some .junk, some .junk, some .junk, some .junk, some .junk, some .junk, some .junk, some .junk, some .junk, some .junk, some .junk, some .junk, some .junk, some .junk, some .junk, some .junk, some .junk, some .junk, some .junk, some .junk, some .junk]) (fun a => hobs 0 1 2 a.1) (fun a => Good a.1 ∧ a.2 < a.1.n ∧ upS a.1 a.2 = upS s i) (fun a => a.2) (s, i) ⟨g, hi, rfl⟩ (by exact weak_mk wkD wkH wkN wkM (by omega)) ?_
  rintro ⟨t, j⟩ ⟨g1, h1, h2⟩
  simp only [] at g1 h1 h2
  simp only [msk_none, msk_some, msk_nil]
  rw [upS] at h2
  have hle := g1.le
  have hlen := g1.len
  by_cases h3 : 0 < j
  · have c1 := first_ok (it t j) (it t ((j - 1) / 2))
    have x1 := it_get (s := t) (i := j) (by omega)
    have x2 := it_get (s := t) (i := (j - 1) / 2) (by omega)
    have q1 : ((j : Int) - 1).tdiv 2 = ((j - 1) / 2 : Nat) := by
      rw [Int.tdiv_eq_ediv_of_nonneg (by omega)]
      omega
    cases hg : goesB (it t j) (it t ((j - 1) / 2)) with
    | true =>
      rw [hg] at c1
      rw [dif_pos ⟨h3, hg⟩] at h2
      have c2 := swap_F t g1 j ((j - 1) / 2) h1 (by omega) (by omega) (H := 0) (a := 1) (m := 2) (by decide)
      have a1 := Alike.swp g1 h1 (show (j - 1) / 2 < t.n by omega) (by omega)
      have zz1 := rws_get x1
      have zz2 := rws_get x2
      have zz3 := q1
      repeat' first
        | refine Z3 ?_
        | refine Zx ?_
        | refine Zc c1 ?_
        | refine Zfc c2 ?_
        | (refine Ze ?_; clear hK K)
        | refine W_reg fun K hK => ?_
        | refine W_drwR rfl mixed (by decide +kernel) fun K hK => ?_
        | refine W_drw mixed (by decide +kernel) fun K hK => ?_
        | (refine Zb ?_ ?_ <;> intro hb <;> first | (simp (disch := omega) only [go_sem, zz1, zz2, zz3] at hb; done) | (simp (disch := omega) only [go_sem, zz1, zz2, zz3] at hb; try omega) | try omega)
        | (refine Zl ?_; intro bn hnil; (try simp (disch := omega) only [go_sem, zz1, zz2, zz3] at hnil); dsimp only [putT, List.set_cons_succ, List.set_cons_zero])
      exact L_next ⟨(swp t j ((j - 1) / 2), (j - 1) / 2), by simp; omega, ⟨a1.good, by rw [a1.n]; omega, h2⟩, (by exact weak_mk wkD wkH wkN wkM (by omega))⟩
    | false =>
      rw [hg] at c1
      rw [dif_neg (by rw [hg]; simp)] at h2
      rw [← h2]
      have zz1 := rws_get x1
      have zz2 := rws_get x2
      have zz3 := q1
      repeat' first
        | refine Z3 ?_
        | refine Zx ?_
        | refine Zc c1 ?_
        | (refine Ze ?_; clear hK K)
        | refine W_reg fun K hK => ?_
        | refine W_drwR rfl mixed (by decide +kernel) fun K hK => ?_
        | refine W_drw mixed (by decide +kernel) fun K hK => ?_
        | (refine Zb ?_ ?_ <;> intro hb <;> first | (simp (disch := omega) only [go_sem, zz1, zz2, zz3] at hb; done) | (simp (disch := omega) only [go_sem, zz1, zz2, zz3] at hb; try omega) | try omega)
        | (refine Zl ?_; intro bn hnil; (try simp (disch := omega) only [go_sem, zz1, zz2, zz3] at hnil); dsimp only [putT, List.set_cons_succ, List.set_cons_zero])
      exact Zrf
  · rw [dif_neg (fun h => h3 h.1)] at h2
    rw [← h2]
    obtain rfl : j = 0 := by omega
    repeat' first
      | refine Z0 ?_
      | refine Zx ?_
      | (refine Ze ?_; clear hK K)
      | refine W_reg fun K hK => ?_
      | refine W_drwR rfl mixed (by decide +kernel) fun K hK => ?_
      | refine W_drw mixed (by decide +kernel) fun K hK => ?_
      | (refine Zb ?_ ?_ <;> intro hb <;> first | (simp (disch := omega) only [go_sem] at hb; done) | (simp (disch := omega) only [go_sem] at hb; try omega) | try omega)
      | (refine Zl ?_; intro bn hnil; (try simp (disch := omega) only [go_sem] at hnil); dsimp only [putT, List.set_cons_succ, List.set_cons_zero])
    exact Zrf

theorem up_F (s : HS) (g : Good s) (i : Nat) (hi : i < s.n) {H a m : Nat} (hd : H ≠ a ∧ H ≠ m ∧ a ≠ m) :
    FCall Try.prog 42 [.ptr H 1 0 0, .int .i64 i] (hobs H a m s) (.tuple []) (hobs H a m (upS s i)) :=
  FCall.heap (up0_ok s g i hi) hd (by simp [lfA_leaf, lf_ptr, lf_int]) (lfA_tup _ _ (by simp)) rfl rfl

theorem down_done {s : HS} {i : Nat} (h : leastS s i = i) : ∀ f, downS f s i = s
  | 0 => rfl
  | f + 1 => by rw [downS, if_pos h]

theorem down0_ok (s : HS) (g : Good s) (i : Nat) (hi : i < s.n) :
    HCall Try.prog 44 [.ptr 0 1 0 0, .int .i64 i] (hobs 0 1 2 s) 3 (fun r h _ => r = .tuple [] ∧ h = hobs 0 1 2 (downS s.n s i)) := by
  refine HCall_intro (c := Try.f44.body.getD .skip) Try.func44 rfl (by decide +kernel) (W_start ?_)
  simp only [Try.f44, go_sem]
  repeat' first
    | refine Z0 ?_
    | refine Zx ?_
    | (refine Ze ?_; clear hK K)
    | refine W_reg fun K hK => ?_
    | refine W_drwR rfl mixed (by decide +kernel) fun K hK => ?_
    | refine W_drw mixed (by decide +kernel) fun K hK => ?_
    | (refine Zb ?_ ?_ <;> intro hb <;> first | (simp (disch := omega) only [go_sem] at hb; done) | (simp (disch := omega) only [go_sem] at hb; try omega) | try omega)
    | (refine Zl ?_; intro bn hnil; (try simp (disch := omega) only [go_sem] at hnil); dsimp only [putT, List.set_cons_succ, List.set_cons_zero])
  refine W_foldM (fun (a : HS × Nat × Nat) => [none, some (.int .i64 a.2.1), none, none, some .junk, none, some .junk, some .junk, some .junk, some .junk, some .junk, some .junk, some .junk, some .junk, some .junk, some .junk, some .junk, some .junk, some .junk, some .junk, some .junk, some .junk, some .junk, some .junk, some .junk, some .junk, some .junk, some .junk, some .junk, some .junk, some .junk, some .junk, some .junk, some .junk, some .junk, some .junk, some .junk, some .junk, some .junk, some .junk, some .junk, some .junk, some .junk, some .junk, some .junk, some .junk, some .junk, some .junk, some .junk, some .junk, some .junk, some .junk]) (fun a => hobs 0 1 2 a.1) (fun a => Good a.1 ∧ a.2.1 < a.1.n ∧ a.1.n ≤ a.2.2 + a.2.1 ∧ a.1.n = s.n ∧ downS a.2.2 a.1 a.2.1 = downS s.n s i) (fun a => a.1.n - a.2.1) (s, i, s.n) ⟨g, hi, by simp, rfl, rfl⟩ (by exact weak_mk wkD wkH wkN wkM (by omega)) ?_
  rintro ⟨t, j, f⟩ ⟨g1, h1, h4, h5, h2⟩
  simp only [] at g1 h1 h2 h4 h5
  simp only [msk_none, msk_some, msk_nil]
  have hle := g1.le
  have hlen := g1.len
  obtain ⟨f, rfl⟩ : ∃ f', f = f' + 1 := ⟨f - 1, by omega⟩
  rw [downS] at h2
  have hl := least_law t j h1
  obtain ⟨l1, e1⟩ : ∃ l1, least1 t j = l1 := ⟨_, rfl⟩
  obtain ⟨l2, e2⟩ : ∃ l2, leastS t j = l2 := ⟨_, rfl⟩
  have e2' := e2
  unfold leastS at e2'
  rw [e1] at e2'
  have e1' := e1
  unfold least1 at e1'
  rw [e2] at h2 hl
  have hl1 : l1 < t.n := by
    rw [← e1]; unfold least1; split <;> omega
  have x0 := it_get (s := t) (i := j) (by omega)
  have x1 := it_get (s := t) (i := l1) (by omega)
  repeat' first
    | refine Z0 ?_
    | refine Zx ?_
    | (refine Ze ?_; clear hK K)
    | refine W_reg fun K hK => ?_
    | refine W_drwR rfl mixed (by decide +kernel) fun K hK => ?_
    | refine W_drw mixed (by decide +kernel) fun K hK => ?_
    | (refine Zb ?_ ?_ <;> intro hb <;> first | (simp (disch := omega) only [go_sem] at hb; done) | (simp (disch := omega) only [go_sem] at hb; try omega) | try omega)
    | (refine Zl ?_; intro bn hnil; (try simp (disch := omega) only [go_sem] at hnil); dsimp only [putT, List.set_cons_succ, List.set_cons_zero])
  refine W_foldK (fun (a : Nat × Nat) => [none, none, none, none, some (.int .i64 a.2), none, some .junk, none, none, none, none, none, none, none, none, some (.int .i64 a.1), some .junk, some .junk, some .junk, some .junk, some .junk, some .junk, some .junk, some .junk, some .junk, some .junk, some .junk, some .junk, some .junk, some .junk, some .junk, some .junk, some .junk, some .junk, some .junk, some .junk, some .junk, some .junk, some .junk, some .junk, some .junk, some .junk, some .junk, some .junk]) (fun a => (a.1 = 0 ∧ a.2 = j) ∨ (a.1 = 1 ∧ a.2 = l1) ∨ (a.1 = 2 ∧ a.2 = l2)) (fun a => 2 - a.1) (0, j) (.inl ⟨rfl, rfl⟩) (by exact weak_mk wkD wkH wkN wkM (by omega)) ?_
  rintro ⟨k, l⟩ (⟨q1, q2⟩ | ⟨q1, q2⟩ | ⟨q1, q2⟩)
  · simp only [] at q1 q2
    subst q1 q2
    simp only [msk_none, msk_some, msk_nil]
    by_cases hb : 2 * l + 1 < t.n
    · have x2 := it_get (s := t) (i := 2 * l + 1) (by omega)
      have c1 := first_ok (it t (2 * l + 1)) (it t l)
      have z1 : (2 * (l : Int) + 1).toNat = 2 * l + 1 := by omega
      cases hg : goesB (it t (2 * l + 1)) (it t l) with
      | true =>
        rw [hg] at c1
        rw [if_pos ⟨hb, hg⟩] at e1'
        subst e1'
        have zz1 := rws_get x0
        have zz2 := rws_get x2
        have zz3 := z1
        repeat' first
          | refine Z3 ?_
          | refine Zx ?_
          | refine Zc c1 ?_
          | (refine Ze ?_; clear hK K)
          | refine W_reg fun K hK => ?_
          | refine W_drwR rfl mixed (by decide +kernel) fun K hK => ?_
          | refine W_drw mixed (by decide +kernel) fun K hK => ?_
          | (refine Zb ?_ ?_ <;> intro hb <;> first | (simp (disch := omega) only [go_sem, zz1, zz2, zz3] at hb; done) | (simp (disch := omega) only [go_sem, zz1, zz2, zz3] at hb; try omega) | try omega)
          | (refine Zl ?_; intro bn hnil; (try simp (disch := omega) only [go_sem, zz1, zz2, zz3] at hnil); dsimp only [putT, List.set_cons_succ, List.set_cons_zero])
        exact L_next ⟨(1, 2 * l + 1), by simp, .inr (.inl ⟨rfl, rfl⟩), (by exact weak_mk wkD wkH wkN wkM (by omega))⟩
      | false =>
        rw [hg] at c1
        rw [if_neg (by rw [hg]; simp)] at e1'
        subst e1'
        have zz1 := rws_get x0
        have zz2 := rws_get x2
        have zz3 := z1
        repeat' first
          | refine Z3 ?_
          | refine Zx ?_
          | refine Zc c1 ?_
          | (refine Ze ?_; clear hK K)
          | refine W_reg fun K hK => ?_
          | refine W_drwR rfl mixed (by decide +kernel) fun K hK => ?_
          | refine W_drw mixed (by decide +kernel) fun K hK => ?_
          | (refine Zb ?_ ?_ <;> intro hb <;> first | (simp (disch := omega) only [go_sem, zz1, zz2, zz3] at hb; done) | (simp (disch := omega) only [go_sem, zz1, zz2, zz3] at hb; try omega) | try omega)
          | (refine Zl ?_; intro bn hnil; (try simp (disch := omega) only [go_sem, zz1, zz2, zz3] at hnil); dsimp only [putT, List.set_cons_succ, List.set_cons_zero])
        exact L_next ⟨(1, l), by simp, .inr (.inl ⟨rfl, rfl⟩), (by exact weak_mk wkD wkH wkN wkM (by omega))⟩
    · rw [if_neg (fun h => hb h.1)] at e1'
      subst e1'
      repeat' first
        | refine Z0 ?_
        | refine Zx ?_
        | (refine Ze ?_; clear hK K)
        | refine W_reg fun K hK => ?_
        | refine W_drwR rfl mixed (by decide +kernel) fun K hK => ?_
        | refine W_drw mixed (by decide +kernel) fun K hK => ?_
        | (refine Zb ?_ ?_ <;> intro hb <;> first | (simp (disch := omega) only [go_sem] at hb; done) | (simp (disch := omega) only [go_sem] at hb; try omega) | try omega)
        | (refine Zl ?_; intro bn hnil; (try simp (disch := omega) only [go_sem] at hnil); dsimp only [putT, List.set_cons_succ, List.set_cons_zero])
      exact L_next ⟨(1, l), by simp, .inr (.inl ⟨rfl, rfl⟩), (by exact weak_mk wkD wkH wkN wkM (by omega))⟩
  · simp only [] at q1 q2
    subst q1 q2
    simp only [msk_none, msk_some, msk_nil]
    by_cases hb : 2 * j + 2 < t.n
    · have x2 := it_get (s := t) (i := 2 * j + 2) (by omega)
      have c1 := first_ok (it t (2 * j + 2)) (it t l)
      have z1 : (2 * (j : Int) + 2).toNat = 2 * j + 2 := by omega
      cases hg : goesB (it t (2 * j + 2)) (it t l) with
      | true =>
        rw [hg] at c1
        rw [if_pos ⟨hb, hg⟩] at e2'
        subst e2'
        have zz1 := rws_get x1
        have zz2 := rws_get x2
        have zz3 := z1
        repeat' first
          | refine Z3 ?_
          | refine Zx ?_
          | refine Zc c1 ?_
          | (refine Ze ?_; clear hK K)
          | refine W_reg fun K hK => ?_
          | refine W_drwR rfl mixed (by decide +kernel) fun K hK => ?_
          | refine W_drw mixed (by decide +kernel) fun K hK => ?_
          | (refine Zb ?_ ?_ <;> intro hb <;> first | (simp (disch := omega) only [go_sem, zz1, zz2, zz3] at hb; done) | (simp (disch := omega) only [go_sem, zz1, zz2, zz3] at hb; try omega) | try omega)
          | (refine Zl ?_; intro bn hnil; (try simp (disch := omega) only [go_sem, zz1, zz2, zz3] at hnil); dsimp only [putT, List.set_cons_succ, List.set_cons_zero])
        exact L_next ⟨(2, 2 * j + 2), by simp, .inr (.inr ⟨rfl, rfl⟩), (by exact weak_mk wkD wkH wkN wkM (by omega))⟩
      | false =>
        rw [hg] at c1
        rw [if_neg (by rw [hg]; simp)] at e2'
        subst e2'
        have zz1 := rws_get x1
        have zz2 := rws_get x2
        have zz3 := z1
        repeat' first
          | refine Z3 ?_
          | refine Zx ?_
          | refine Zc c1 ?_
          | (refine Ze ?_; clear hK K)
          | refine W_reg fun K hK => ?_
          | refine W_drwR rfl mixed (by decide +kernel) fun K hK => ?_
          | refine W_drw mixed (by decide +kernel) fun K hK => ?_
          | (refine Zb ?_ ?_ <;> intro hb <;> first | (simp (disch := omega) only [go_sem, zz1, zz2, zz3] at hb; done) | (simp (disch := omega) only [go_sem, zz1, zz2, zz3] at hb; try omega) | try omega)
          | (refine Zl ?_; intro bn hnil; (try simp (disch := omega) only [go_sem, zz1, zz2, zz3] at hnil); dsimp only [putT, List.set_cons_succ, List.set_cons_zero])
        exact L_next ⟨(2, l), by simp, .inr (.inr ⟨rfl, rfl⟩), (by exact weak_mk wkD wkH wkN wkM (by omega))⟩
    · rw [if_neg (fun h => hb h.1)] at e2'
      subst e2'
      repeat' first
        | refine Z0 ?_
        | refine Zx ?_
        | (refine Ze ?_; clear hK K)
        | refine W_reg fun K hK => ?_
        | refine W_drwR rfl mixed (by decide +kernel) fun K hK => ?_
        | refine W_drw mixed (by decide +kernel) fun K hK => ?_
        | (refine Zb ?_ ?_ <;> intro hb <;> first | (simp (disch := omega) only [go_sem] at hb; done) | (simp (disch := omega) only [go_sem] at hb; try omega) | try omega)
        | (refine Zl ?_; intro bn hnil; (try simp (disch := omega) only [go_sem] at hnil); dsimp only [putT, List.set_cons_succ, List.set_cons_zero])
      exact L_next ⟨(2, l), by simp, .inr (.inr ⟨rfl, rfl⟩), (by exact weak_mk wkD wkH wkN wkM (by omega))⟩
  · simp only [] at q1 q2
    subst q1 q2
    simp only [msk_none, msk_some, msk_nil]
    by_cases hb : l = j
    · rw [if_pos hb] at h2
      rw [← h2]
      repeat' first
        | refine Z0 ?_
        | refine Zx ?_
        | (refine Ze ?_; clear hK K)
        | refine W_reg fun K hK => ?_
        | refine W_drwR rfl mixed (by decide +kernel) fun K hK => ?_
        | refine W_drw mixed (by decide +kernel) fun K hK => ?_
        | (refine Zb ?_ ?_ <;> intro hb <;> first | (simp (disch := omega) only [go_sem] at hb; done) | (simp (disch := omega) only [go_sem] at hb; try omega) | try omega)
        | (refine Zl ?_; intro bn hnil; (try simp (disch := omega) only [go_sem] at hnil); dsimp only [putT, List.set_cons_succ, List.set_cons_zero])
      exact Zrf
    · rw [if_neg hb] at h2
      rcases hl with ⟨hl, _⟩ | ⟨hl2, hl3, _⟩
      · exact absurd hl hb
      have c2 := swap_F t g1 j l h1 hl2 (fun e => hb e.symm) (H := 0) (a := 1) (m := 2) (by decide)
      have a1 := Alike.swp g1 h1 hl2 (fun e => hb e.symm)
      repeat' first
        | refine Z0 ?_
        | refine Zx ?_
        | refine Zfc c2 ?_
        | (refine Ze ?_; clear hK K)
        | refine W_reg fun K hK => ?_
        | refine W_drwR rfl mixed (by decide +kernel) fun K hK => ?_
        | refine W_drw mixed (by decide +kernel) fun K hK => ?_
        | (refine Zb ?_ ?_ <;> intro hb <;> first | (simp (disch := omega) only [go_sem] at hb; done) | (simp (disch := omega) only [go_sem] at hb; try omega) | try omega)
        | (refine Zl ?_; intro bn hnil; (try simp (disch := omega) only [go_sem] at hnil); dsimp only [putT, List.set_cons_succ, List.set_cons_zero])
      exact L_next ⟨(swp t j l, l, f), by show (swp t j l).n - l < t.n - j; rw [a1.n]; omega, ⟨a1.good, by rw [a1.n]; exact hl2, by show (swp t j l).n ≤ f + l; rw [a1.n]; omega, by rw [a1.n]; exact h5, h2⟩, (by exact weak_mk wkD wkH wkN wkM (by omega))⟩

theorem down_F (s : HS) (g : Good s) (i : Nat) (hi : i < s.n) {H a m : Nat} (hd : H ≠ a ∧ H ≠ m ∧ a ≠ m) :
    FCall Try.prog 44 [.ptr H 1 0 0, .int .i64 i] (hobs H a m s) (.tuple []) (hobs H a m (downS s.n s i)) :=
  FCall.heap (down0_ok s g i hi) hd (by simp [lfA_leaf, lf_ptr, lf_int]) (lfA_tup _ _ (by simp)) rfl rfl

end Go.Proofs.Ytfbmbjfcgoahfaa
