/-
  The laws of the heap without a list: HeapSorts, HeapFull; walked.
-/
import Derived.Test.YtfbmbjfcgoahfaaF4
namespace Go.Proofs.Ytfbmbjfcgoahfaa
open Go Go.AM
set_option maxHeartbeats 4000000
set_option maxRecDepth 8000
set_option linter.unusedSimpArgs false
set_option linter.unusedVariables false

theorem new_N : NCall Try.prog 14 [] (.ptr 3 1 0 0) (hobs 3 5 1 newS) 6 := by
  refine ⟨new0_ok, by simp, fun e he => ?_, fun e he => ?_, .leaf _ (.ptr _ _ _ _ (by simp)), fun x hx => (nomatch hx)⟩
  · simp only [List.mem_cons, List.not_mem_nil, or_false] at he
    rcases he with rfl | rfl | rfl <;> simp
  · simp only [List.mem_cons, List.not_mem_nil, or_false] at he
    rcases he with rfl | rfl | rfl
    · simp [lfO_mpe]
    · simp [lfO_rws]
    · simp [lfO_row, lf_ref, lf_mapv]

section
variable {s : HS} {l : List TItem}
theorem push_V (v : View s l) (x : TItem) (hx : x.wf) : ∃ s', View s' (pushL l x).1 ∧ ∀ {H a m : Nat}, (H ≠ a ∧ H ≠ m ∧ a ≠ m) → FCall Try.prog 15 [.ptr H 1 0 0, .agg (Enc.enc x)] (hobs H a m s) (.int .i64 (pushL l x).2) (hobs H a m s') := by
  obtain ⟨h1, h2⟩ := v.push hx
  exact ⟨_, h1, fun hd => h2 ▸ push_F s v.g x hx hd⟩
theorem remove_V (v : View s l) (id : Int) : ∃ s', View s' (removeL l id).1 ∧ ∀ {H a m : Nat}, (H ≠ a ∧ H ≠ m ∧ a ≠ m) → FCall Try.prog 19 [.ptr H 1 0 0, .int .i64 id] (hobs H a m s) (.int .i64 (removeL l id).2) (hobs H a m s') := by
  obtain ⟨h1, h2⟩ := v.remove id
  exact ⟨_, h1, fun hd => h2 ▸ remove_F s v.g id hd⟩
theorem change_V (v : View s l) (x : TItem) (hx : x.wf) : ∃ s', View s' (changeL l x).1 ∧ ∀ {H a m : Nat}, (H ≠ a ∧ H ≠ m ∧ a ≠ m) → FCall Try.prog 37 [.ptr H 1 0 0, .agg (Enc.enc x)] (hobs H a m s) (.int .i64 (changeL l x).2) (hobs H a m s') := by
  obtain ⟨h1, h2⟩ := v.change hx
  exact ⟨_, h1, fun hd => h2 ▸ change_F s v.g v.o x hx hd⟩
theorem pop_V (v : View s l) : ∃ s', View s' l.tail ∧ ∀ {H a m : Nat}, (H ≠ a ∧ H ≠ m ∧ a ≠ m) → FCall Try.prog 17 [.ptr H 1 0 0] (hobs H a m s) (itemV (peekL l)) (hobs H a m s') := by
  obtain ⟨h1, h2⟩ := v.pop
  exact ⟨_, h1, fun hd => h2 ▸ pop_F s v.g hd⟩
theorem peek_V (v : View s l) {H a m : Nat} (hd : H ≠ a ∧ H ≠ m ∧ a ≠ m) : FCall Try.prog 41 [.ptr H 1 0 0] (hobs H a m s) (itemV (peekL l)) (hobs H a m s) := v.peek ▸ peek_F s v.g hd
theorem get_V (v : View s l) (id : Int) {H a m : Nat} (hd : H ≠ a ∧ H ≠ m ∧ a ≠ m) : FCall Try.prog 16 [.ptr H 1 0 0, .int .i64 id] (hobs H a m s) (itemV (getL l id)) (hobs H a m s) := v.get id ▸ get_F s v.g id hd
theorem len_V (v : View s l) {H a m : Nat} (hd : H ≠ a ∧ H ≠ m ∧ a ≠ m) : FCall Try.prog 18 [.ptr H 1 0 0] (hobs H a m s) (.int .i64 l.length) (hobs H a m s) := v.n ▸ len_F s hd
end

theorem awake4_ok : PCall Try.prog 13 [] (· = .bool true) := by
  obtain ⟨s1, v1, c1⟩ := push_V View.new ⟨5, 1⟩ ⟨by decide, by decide⟩
  obtain ⟨s2, v2, c2⟩ := push_V v1 ⟨3, 9⟩ ⟨by decide, by decide⟩
  obtain ⟨s3, v3, c3⟩ := pop_V v2
  have e1 : pushL [] ⟨5, 1⟩ = ([⟨5, 1⟩], 0) := by decide
  have e2 : pushL [⟨5, 1⟩] ⟨3, 9⟩ = ([⟨3, 9⟩, ⟨5, 1⟩], 0) := by decide
  rw [e1] at v1 c1 c2 v2 c3 v3
  simp only [e2] at v1 c1 c2 v2 c3 v3
  have c1 := c1 (H := 4) (a := 6) (m := 2) (by decide)
  have c2 := c2 (H := 4) (a := 6) (m := 2) (by decide)
  have c3 := c3 (H := 4) (a := 6) (m := 2) (by decide)
  rw [show peekL [⟨3, 9⟩, ⟨5, 1⟩] = (⟨3, 9⟩, true) from rfl] at c3
  have c4 := len_V v3 (H := 4) (a := 6) (m := 2) (by decide)
  refine PCall_intro (c := Try.f13.body.getD .skip) Try.func13 rfl (by decide +kernel) Zf (W_start ?_)
  simp only [Try.f13, go_sem]
  repeat' first
    | refine Z0 ?_
    | refine Zx ?_
    | refine Zbn new_N ?_
    | refine Zfc c1 ?_
    | refine Zfc c2 ?_
    | refine Zfc c3 ?_
    | refine Zfc c4 ?_
    | (refine Ze ?_; clear hK K)
    | refine W_reg fun K hK => ?_
    | refine W_drwR rfl mixed (by decide +kernel) fun K hK => ?_
    | refine W_drw mixed (by decide +kernel) fun K hK => ?_
    | (refine Zb ?_ ?_ <;> intro hb <;> first | (simp (disch := omega) only [go_sem] at hb; done) | (simp (disch := omega) only [go_sem] at hb; try omega) | try omega)
    | (refine Zl ?_; intro bn hnil; (try simp (disch := omega) only [go_sem] at hnil); dsimp only [putT, List.set_cons_succ, List.set_cons_zero])
  exact Zr

theorem getL_none {l : List TItem} {id : Int} (h : hasL l id = false) : getL l id = (zItem, false) := by
  unfold getL
  have : l.find? (fun y => decide (y.iD = id)) = none := by
    rw [List.find?_eq_none]
    intro y hy
    simpa using hasL_f.1 h y hy
  rw [this]
theorem getL_some {l : List TItem} {id : Int} (h : hasL l id = true) : ∃ x, getL l id = (x, true) := by
  unfold getL
  cases h2 : l.find? (fun y => decide (y.iD = id)) with
  | none =>
    rw [List.find?_eq_none] at h2
    obtain ⟨y, hy, e⟩ := hasL_t.1 h
    have := h2 y hy
    simp [e] at this
  | some y => exact ⟨y, rfl⟩

theorem heapSorts_ok (l : List TItem) (hl : l.length ≤ maxLen) (hw : ∀ x, x ∈ l → x.wf) : PCall Try.prog 3 [.sl (rws l) none] (· = .bool true) := by
  unfold maxLen at hl
  have c0 := awake4_ok
  refine PCall_intro (c := Try.f3.body.getD .skip) Try.func3 rfl (by decide +kernel) Zf (W_start ?_)
  simp only [Try.f3, go_sem]
  repeat' first
    | refine Z0 ?_
    | refine Zx ?_
    | refine Zc c0 ?_
    | refine Zbn new_N ?_
    | (refine Ze ?_; clear hK K)
    | refine W_reg fun K hK => ?_
    | refine W_drwR rfl mixed (by decide +kernel) fun K hK => ?_
    | refine W_drw mixed (by decide +kernel) fun K hK => ?_
    | (refine Zb ?_ ?_ <;> intro hb <;> first | (simp (disch := omega) only [go_sem] at hb; done) | (simp (disch := omega) only [go_sem] at hb; try omega) | try omega)
    | (refine Zl ?_; intro bn hnil; (try simp (disch := omega) only [go_sem] at hnil); dsimp only [putT, List.set_cons_succ, List.set_cons_zero])
  refine W_foldM (fun (a : Nat × Nat × HS × List TItem) => [none, none, some .junk, none, some (.int .i64 a.2.1), some (.int .i64 a.1), some .junk, some .junk, none, none, none, none, none, none, none, none, none, none, none, some .junk, some .junk, some .junk, some .junk, some .junk, some .junk, some .junk, some .junk, some .junk, some .junk, some .junk, some .junk, some .junk, some .junk, some .junk, some .junk, some .junk, some .junk, some .junk, some .junk, some .junk, some .junk, some .junk, some .junk, some .junk, some .junk, some .junk, some .junk, some .junk, some .junk, some .junk]) (fun a => hobs 6 8 4 a.2.2.1) (fun a => a.1 ≤ l.length ∧ a.1 ≤ 1024 ∧ View a.2.2.1 a.2.2.2 ∧ a.2.1 = a.2.2.2.length ∧ a.2.1 ≤ a.1) (fun a => l.length - a.1) (0, 0, newS, []) ⟨by omega, by omega, View.new, rfl, by simp⟩ (by exact weak_mk wkD wkH wkN wkM (by omega)) ?_
  rintro ⟨i, n, s, l'⟩ ⟨h1, h2, v, h4, h3⟩
  simp only [] at h1 h2 v h3 h4
  simp only [msk_none, msk_some, msk_nil]
  by_cases hi : i < l.length ∧ i < 1024
  · obtain ⟨x, hx⟩ := some_of_lt hi.1
    have hxw := hw x (List.mem_of_getElem? hx)
    obtain ⟨s', v', c1⟩ := push_V v x hxw
    have c1 := c1 (H := 6) (a := 8) (m := 4) (by decide)
    unfold pushL at v' c1
    cases hh : hasL l' x.iD with
    | true =>
      rw [if_pos hh] at c1 v'
      obtain ⟨y, hy⟩ := getL_some hh
      have c2 := get_V v' x.iD (H := 6) (a := 8) (m := 4) (by decide)
      rw [hy] at c2
      have zz1 := rws_get hx
      repeat' first
        | refine Z1 ?_
        | refine Zx ?_
        | refine Zfc c1 ?_
        | refine Zfc c2 ?_
        | (refine Ze ?_; clear hK K)
        | refine W_reg fun K hK => ?_
        | refine W_drwR rfl mixed (by decide +kernel) fun K hK => ?_
        | refine W_drw mixed (by decide +kernel) fun K hK => ?_
        | (refine Zb ?_ ?_ <;> intro hb <;> first | (simp (disch := omega) only [go_sem, zz1] at hb; done) | (simp (disch := omega) only [go_sem, zz1] at hb; try omega) | try omega)
        | (refine Zl ?_; intro bn hnil; (try simp (disch := omega) only [go_sem, zz1] at hnil); dsimp only [putT, List.set_cons_succ, List.set_cons_zero])
      all_goals exact L_next ⟨(i + 1, n, s', l'), by simp; omega, ⟨by simp; omega, by simp; omega, v', by simp; omega, by simp; omega⟩, (by exact weak_mk wkD wkH wkN wkM (by omega))⟩
    | false =>
      rw [if_neg (by rw [hh]; simp), if_neg (by omega)] at c1 v'
      have hlen := len_insL l' x
      have zz1 := rws_get hx
      repeat' first
        | refine Z1 ?_
        | refine Zx ?_
        | refine Zfc c1 ?_
        | (refine Ze ?_; clear hK K)
        | refine W_reg fun K hK => ?_
        | refine W_drwR rfl mixed (by decide +kernel) fun K hK => ?_
        | refine W_drw mixed (by decide +kernel) fun K hK => ?_
        | (refine Zb ?_ ?_ <;> intro hb <;> first | (simp (disch := omega) only [go_sem, zz1] at hb; done) | (simp (disch := omega) only [go_sem, zz1] at hb; try omega) | try omega)
        | (refine Zl ?_; intro bn hnil; (try simp (disch := omega) only [go_sem, zz1] at hnil); dsimp only [putT, List.set_cons_succ, List.set_cons_zero])
      all_goals exact L_next ⟨(i + 1, n + 1, s', insL l' x), by simp; omega, ⟨by simp; omega, by simp; omega, v', by simp; omega, by simp; omega⟩, (by exact weak_mk wkD wkH wkN wkM (by omega))⟩
  · repeat' first
      | refine Z0 ?_
      | refine Zx ?_
      | (refine Ze ?_; clear hK K)
      | refine W_reg fun K hK => ?_
      | refine W_drwR rfl mixed (by decide +kernel) fun K hK => ?_
      | refine W_drw mixed (by decide +kernel) fun K hK => ?_
      | (refine Zb ?_ ?_ <;> intro hb <;> first | (simp (disch := omega) only [go_sem] at hb; done) | (simp (disch := omega) only [go_sem] at hb; try omega) | try omega)
      | (refine Zl ?_; intro bn hnil; (try simp (disch := omega) only [go_sem] at hnil); dsimp only [putT, List.set_cons_succ, List.set_cons_zero])
    all_goals
      refine W_foldM (fun (a : Nat × TItem × HS × List TItem) => [none, none, some .junk, none, none, none, none, none, none, some (.int .i64 a.1), some .junk, some .junk, some .junk, some .junk, none, none, none, none, none, none, none, none, none, none, none, none, none, none, none, none, none, none, none, none, none, none, none, none, none, none, none, none, none, none, none, none, none, none, none, none, some .junk, some .junk, some .junk, some .junk, some .junk, some .junk, some .junk, some .junk, some .junk, some .junk, some .junk, some .junk, some .junk, some .junk, some .junk, some .junk, some .junk, some .junk, some .junk, some .junk, some .junk, some .junk, some .junk, some .junk, some .junk, some .junk, some .junk, some .junk, some .junk, some .junk, some .junk, some .junk, some .junk, some .junk, some .junk, some .junk, some .junk, some .junk, some .junk, some .junk, some .junk, some .junk, some .junk, some .junk, some .junk, some .junk]) (fun a => [(20, .arr 2 [[.int .u64 a.2.1.key, .int .i64 a.2.1.iD]]), (4, .mp ⟨mpe a.2.2.1.m, a.2.2.1.c⟩), (8, .arr 2 (rws a.2.2.1.xs)), (6, .arr 2 [hrow 8 4 a.2.2.1])])
        (fun a => View a.2.2.1 a.2.2.2 ∧ a.1 + a.2.2.2.length = n ∧ (0 < a.1 → ∀ y, y ∈ a.2.2.2 → goesB a.2.1 y = true)) (fun a => n - a.1) (0, zItem, s, l') ⟨v, by simp; omega, by simp⟩ (by exact weak_mk wkD wkH wkN wkM (by omega)) ?_
      rintro ⟨j, z, t, m⟩ ⟨w, k1, k2⟩
      simp only [] at w k1 k2
      simp only [msk_none, msk_some, msk_nil]
      cases m with
      | nil =>
        simp only [List.length_nil, Nat.add_zero] at k1
        obtain ⟨t', w', c3⟩ := pop_V w
        have c3 := c3 (H := 6) (a := 8) (m := 4) (by decide)
        have c4 := len_V w' (H := 6) (a := 8) (m := 4) (by decide)
        rw [show peekL [] = (zItem, false) from rfl] at c3
        rw [show ((([] : List TItem).tail.length : Nat) : Int) = 0 from rfl] at c4
        repeat' first
          | refine Z0 ?_
          | refine Zx ?_
          | refine Zfc c3 ?_
          | refine Zfc c4 ?_
          | (refine Ze ?_; clear hK K)
          | refine W_reg fun K hK => ?_
          | refine W_drwR rfl mixed (by decide +kernel) fun K hK => ?_
          | refine W_drw mixed (by decide +kernel) fun K hK => ?_
          | (refine Zb ?_ ?_ <;> intro hb <;> first | (simp (disch := omega) only [go_sem] at hb; done) | (simp (disch := omega) only [go_sem] at hb; try omega) | try omega)
          | (refine Zl ?_; intro bn hnil; (try simp (disch := omega) only [go_sem] at hnil); dsimp only [putT, List.set_cons_succ, List.set_cons_zero])
        exact Zr
      | cons x m =>
        simp only [List.length_cons] at k1
        obtain ⟨t', w', c3⟩ := pop_V w
        have c3 := c3 (H := 6) (a := 8) (m := 4) (by decide)
        rw [show peekL (x :: m) = (x, true) from rfl] at c3
        have hno : hasL m x.iD = false := by
          have := w.ids
          rw [List.map_cons, List.nodup_cons] at this
          rw [hasL_f]
          exact fun y hy e => this.1 (List.mem_map.2 ⟨y, hy, e⟩)
        have c4 := get_V w' x.iD (H := 6) (a := 8) (m := 4) (by decide)
        rw [show (x :: m).tail = m from rfl, getL_none hno] at c4
        have hs := w.srt
        unfold Sorted at hs
        rw [List.pairwise_cons] at hs
        have q := fun h => k2 h x (List.mem_cons_self ..)
        rw [goes_t] at q
        repeat' first
          | refine Z0 ?_
          | refine Zx ?_
          | refine Zfc c3 ?_
          | refine Zfc c4 ?_
          | (refine Ze ?_; clear hK K)
          | refine W_reg fun K hK => ?_
          | refine W_drwR rfl mixed (by decide +kernel) fun K hK => ?_
          | refine W_drw mixed (by decide +kernel) fun K hK => ?_
          | (refine Zb ?_ ?_ <;> intro hb <;> first | (simp (disch := omega) only [go_sem] at hb; done) | (simp (disch := omega) only [go_sem] at hb; try omega) | try omega)
          | (refine Zl ?_; intro bn hnil; (try simp (disch := omega) only [go_sem] at hnil); dsimp only [putT, List.set_cons_succ, List.set_cons_zero])
        all_goals exact L_next ⟨(j + 1, x, t', m), by simp; omega, ⟨w', by simp; omega, fun _ => hs.1⟩, (by exact weak_mk wkD wkH wkN wkM (by omega))⟩

theorem wrap_u_ok (n : Int) : 0 ≤ IntKind.u64.wrap n ∧ IntKind.u64.wrap n ≤ 18446744073709551615 := by
  simp only [IntKind.wrap, IntKind.bits, IntKind.signed]
  simp
  omega

theorem wf_mk {k i : Int} (h1 : 0 ≤ k) (h2 : k ≤ 18446744073709551615) (h3 : -9223372036854775808 ≤ i) (h4 : i ≤ 9223372036854775807) : TItem.wf ⟨k, i⟩ := ⟨⟨h1, h2⟩, ⟨h3, h4⟩⟩

theorem heapFull_ok (f k : Int) (hk : 0 ≤ k ∧ k ≤ 18446744073709551615) : PCall Try.prog 4 [.int .i64 f, .int .u64 k] (· = .bool true) := by
  have c0 := awake4_ok
  refine PCall_intro (c := Try.f4.body.getD .skip) Try.func4 rfl (by decide +kernel) Zf (W_start ?_)
  simp only [Try.f4, go_sem]
  by_cases hf : 0 ≤ f ∧ f ≤ 1099511627776
  · repeat' first
      | refine Z0 ?_
      | refine Zx ?_
      | refine Zc c0 ?_
      | refine Zbn new_N ?_
      | (refine Ze ?_; clear hK K)
      | refine W_reg fun K hK => ?_
      | refine W_drwR rfl mixed (by decide +kernel) fun K hK => ?_
      | refine W_drw mixed (by decide +kernel) fun K hK => ?_
      | (refine Zb ?_ ?_ <;> intro hb <;> first | (simp (disch := omega) only [go_sem] at hb; done) | (simp (disch := omega) only [go_sem] at hb; try omega) | try omega)
      | (refine Zl ?_; intro bn hnil; (try simp (disch := omega) only [go_sem] at hnil); dsimp only [putT, List.set_cons_succ, List.set_cons_zero])
    all_goals
      refine W_foldM (fun (a : Nat × HS × List TItem) => [none, none, none, none, some .junk, none, some (.int .i64 a.1), none, none, none, none, none, none, none, none, none, some .junk, some .junk, some .junk, some .junk, some .junk, some .junk, some .junk, some .junk, some .junk, some .junk, some .junk, some .junk, some .junk, some .junk, some .junk, some .junk]) (fun a => hobs 12 14 10 a.2.1) (fun a => a.1 ≤ 4096 ∧ View a.2.1 a.2.2 ∧ a.2.2.length = a.1 ∧ (∀ y, y ∈ a.2.2 → f ≤ y.iD ∧ y.iD < f + a.1) ∧ ∀ j : Nat, j < a.1 → hasL a.2.2 (f + j) = true) (fun a => 4096 - a.1) (0, newS, []) ⟨by omega, View.new, rfl, by simp, by simp⟩ (by exact weak_mk wkD wkH wkN wkM (by omega)) ?_
      rintro ⟨i, s, l⟩ ⟨h1, v, h2, h3, h4⟩
      simp only [] at h1 v h2 h3 h4
      simp only [msk_none, msk_some, msk_nil]
      by_cases hi : i < 4096
      · obtain ⟨q, hq⟩ : ∃ q, IntKind.u64.wrap (k * (i : Int)) = q := ⟨_, rfl⟩
        have hq2 := wrap_u_ok (k * (i : Int))
        rw [hq] at hq2
        have hq3 : 0 ≤ q.tmod 97 ∧ q.tmod 97 ≤ 18446744073709551615 := by
          rw [Int.tmod_eq_emod_of_nonneg hq2.1]; omega
        obtain ⟨s', v', c1⟩ := push_V v ⟨q.tmod 97, f + i⟩ (wf_mk (by omega) (by omega) (by omega) (by omega))
        have c1 := c1 (H := 12) (a := 14) (m := 10) (by decide)
        have hno : hasL l (f + i) = false := by
          rw [hasL_f]
          intro y hy
          have := h3 y hy
          omega
        unfold pushL at v' c1
        rw [if_neg (by rw [hno]; simp), if_neg (by omega)] at c1 v'
        have zz1 := hq
        repeat' first
          | refine Z1 ?_
          | refine Zx ?_
          | refine Zfc c1 ?_
          | (refine Ze ?_; clear hK K)
          | refine W_reg fun K hK => ?_
          | refine W_drwR rfl mixed (by decide +kernel) fun K hK => ?_
          | refine W_drw mixed (by decide +kernel) fun K hK => ?_
          | (refine Zb ?_ ?_ <;> intro hb <;> first | (simp (disch := omega) only [go_sem, zz1] at hb; done) | (simp (disch := omega) only [go_sem, zz1] at hb; try omega) | try omega)
          | (refine Zl ?_; intro bn hnil; (try simp (disch := omega) only [go_sem, zz1] at hnil); dsimp only [putT, List.set_cons_succ, List.set_cons_zero])
        all_goals exact L_next ⟨(i + 1, s', insL l ⟨q.tmod 97, f + i⟩), by simp; omega, ⟨by simp; omega, v', by rw [len_insL, h2], fun y hy => by
          rcases mem_insL.1 hy with rfl | hy
          · simp; omega
          · have := h3 y hy
            simp; omega, fun j hj => by
          rw [hasL_t]
          by_cases e : j = i
          · subst e
            exact ⟨_, mem_insL.2 (.inl rfl), rfl⟩
          · simp only [] at hj
            obtain ⟨y, hy, e2⟩ := hasL_t.1 (h4 j (by omega))
            exact ⟨y, mem_insL.2 (.inr hy), e2⟩⟩, (by exact weak_mk wkD wkH wkN wkM (by omega))⟩
      · have h5 : i = 4096 := by omega
        subst h5
        obtain ⟨s1, v1, c1⟩ := push_V v ⟨0, -1⟩ (wf_mk (by omega) (by omega) (by omega) (by omega))
        have hno : hasL l (-1) = false := by
          rw [hasL_f]
          intro y hy
          have := h3 y hy
          omega
        unfold pushL at v1 c1
        rw [if_neg (by rw [hno]; simp), if_pos (by omega)] at c1 v1
        have c1 := c1 (H := 12) (a := 14) (m := 10) (by decide)
        obtain ⟨s2, v2, c2⟩ := push_V v1 ⟨0, f⟩ (wf_mk (by omega) (by omega) (by omega) (by omega))
        have hf0 := h4 0 (by omega)
        unfold pushL at v2 c2
        rw [if_pos (by simpa using hf0)] at c2 v2
        have c2 := c2 (H := 12) (a := 14) (m := 10) (by decide)
        have c3 := len_V v2 (H := 12) (a := 14) (m := 10) (by decide)
        obtain ⟨s3, v3, c4⟩ := remove_V v2 (f + 7)
        have hf7 := h4 7 (by omega)
        unfold removeL at v3 c4
        rw [if_pos (by simpa using hf7)] at c4 v3
        have c4 := c4 (H := 12) (a := 14) (m := 10) (by decide)
        have hl7 := len_cutL v2.ids (hasL_t.1 (by simpa using hf7 : hasL l (f + 7) = true))
        have hno7 : ∀ y, y ∈ cutL l (f + 7) → y.iD ≠ -1 ∧ y.iD ≠ -2 := fun y hy => by
          have := h3 y (mem_cutL.1 hy).1
          omega
        obtain ⟨s5, v5, c5⟩ := push_V v3 ⟨0, -1⟩ (wf_mk (by omega) (by omega) (by omega) (by omega))
        unfold pushL at v5 c5
        rw [if_neg (by rw [hasL_f.2 fun y hy => (hno7 y hy).1]; simp), if_neg (by simp only [] at hl7 ⊢; omega)] at c5 v5
        have c5 := c5 (H := 12) (a := 14) (m := 10) (by decide)
        obtain ⟨s6, v6, c6⟩ := push_V v5 ⟨0, -2⟩ (wf_mk (by omega) (by omega) (by omega) (by omega))
        unfold pushL at v6 c6
        rw [if_neg (by
          rw [hasL_f.2 fun y hy => by
            rcases mem_insL.1 hy with rfl | hy
            · simp
            · exact (hno7 y hy).2]
          simp), if_pos (by have := len_insL (cutL l (f + 7)) ⟨0, -1⟩; simp only [] at hl7 this ⊢; omega)] at c6 v6
        have c6 := c6 (H := 12) (a := 14) (m := 10) (by decide)
        simp only [h2] at c3
        repeat' first
          | refine Z0 ?_
          | refine Zx ?_
          | refine Zfc c1 ?_
          | refine Zfc c2 ?_
          | refine Zfc c3 ?_
          | refine Zfc c4 ?_
          | refine Zfc c5 ?_
          | refine Zfc c6 ?_
          | (refine Ze ?_; clear hK K)
          | refine W_reg fun K hK => ?_
          | refine W_drwR rfl mixed (by decide +kernel) fun K hK => ?_
          | refine W_drw mixed (by decide +kernel) fun K hK => ?_
          | (refine Zb ?_ ?_ <;> intro hb <;> first | (simp (disch := omega) only [go_sem] at hb; done) | (simp (disch := omega) only [go_sem] at hb; try omega) | try omega)
          | (refine Zl ?_; intro bn hnil; (try simp (disch := omega) only [go_sem] at hnil); dsimp only [putT, List.set_cons_succ, List.set_cons_zero])
        all_goals exact Zr
  · repeat' first
      | refine Z0 ?_
      | refine Zx ?_
      | refine Zc c0 ?_
      | (refine Ze ?_; clear hK K)
      | refine W_reg fun K hK => ?_
      | refine W_drwR rfl mixed (by decide +kernel) fun K hK => ?_
      | refine W_drw mixed (by decide +kernel) fun K hK => ?_
      | (refine Zb ?_ ?_ <;> intro hb <;> first | (simp (disch := omega) only [go_sem] at hb; done) | (simp (disch := omega) only [go_sem] at hb; try omega) | try omega)
      | (refine Zl ?_; intro bn hnil; (try simp (disch := omega) only [go_sem] at hnil); dsimp only [putT, List.set_cons_succ, List.set_cons_zero])
    all_goals exact Zr

end Go.Proofs.Ytfbmbjfcgoahfaa
