/-
  The heap: List; the reference's Find, Push, Remove, Change, Same; walked.
-/
import Derived.Test.YtfbmbjfcgoahfaaS9
import Derived.Test.YtfbmbjfcgoahfaaM7
import Derived.Test.YtfbmbjfcgoahfaaF5
namespace Go.Proofs.Ytfbmbjfcgoahfaa
open Go Go.AM
set_option maxHeartbeats 8000000
set_option maxRecDepth 8000
set_option linter.unusedSimpArgs false
set_option linter.unusedVariables false

theorem cmp_ok : CmpOk 50 cmpI := by
  intro x y
  have c1 := first_ok x y
  unfold cmpI
  by_cases h : goesB x y = true
  · rw [if_pos h]
    rw [h] at c1
    refine PCall_intro (c := Try.f50.body.getD .skip) Try.func50 rfl (by decide +kernel) Zf (W_start ?_)
    simp only [Try.f50, go_sem]
    repeat' first
      | refine Z0 ?_
      | refine Zx ?_
      | refine Zc c1 ?_
      | (refine Ze ?_; clear hK K)
      | refine W_reg fun K hK => ?_
      | refine W_drwR rfl mixed (by decide +kernel) fun K hK => ?_
      | refine W_drw mixed (by decide +kernel) fun K hK => ?_
      | (refine Zb ?_ ?_ <;> intro hb <;> first | (simp (disch := omega) only [go_sem] at hb; done) | (simp (disch := omega) only [go_sem] at hb; try omega) | try omega)
      | (refine Zl ?_; intro bn hnil; (try simp (disch := omega) only [go_sem] at hnil); dsimp only [putT, List.set_cons_succ, List.set_cons_zero])
    exact Zr
  · rw [if_neg h]
    have h2 : goesB x y = false := by simpa using h
    rw [h2] at c1
    refine PCall_intro (c := Try.f50.body.getD .skip) Try.func50 rfl (by decide +kernel) Zf (W_start ?_)
    simp only [Try.f50, go_sem]
    repeat' first
      | refine Z0 ?_
      | refine Zx ?_
      | refine Zc c1 ?_
      | (refine Ze ?_; clear hK K)
      | refine W_reg fun K hK => ?_
      | refine W_drwR rfl mixed (by decide +kernel) fun K hK => ?_
      | refine W_drw mixed (by decide +kernel) fun K hK => ?_
      | (refine Zb ?_ ?_ <;> intro hb <;> first | (simp (disch := omega) only [go_sem] at hb; done) | (simp (disch := omega) only [go_sem] at hb; try omega) | try omega)
      | (refine Zl ?_; intro bn hnil; (try simp (disch := omega) only [go_sem] at hnil); dsimp only [putT, List.set_cons_succ, List.set_cons_zero])
    exact Zr

theorem list0_ok (s : HS) (l : List TItem) (v : View s l) : HCall Try.prog 40 [.ptr 0 1 0 0] (hobs 0 1 2 s) 3 (fun r h _ => r = .sl (rws l) none ∧ h = hobs 0 1 2 s) := by
  have hle := v.g.le
  have hlen := v.g.len
  have t1 : (rws s.xs).take s.n = rws (s.xs.take s.n) := rws_take _ _
  have t3 : (s.xs.take s.n).length = s.n := by rw [List.length_take]; omega
  have hso := sort_view v
  refine HCall_intro (c := Try.f40.body.getD .skip) Try.func40 rfl (by decide +kernel) (W_start ?_)
  simp only [Try.f40, go_sem]
  have zz1 := t1
  have zz2 := t3
  repeat' first
    | refine Z2 ?_
    | refine Zx ?_
    | (refine Ze ?_; clear hK K)
    | refine W_regNe 4 (by decide) fun K hK => ?_
    | refine W_drwRNe 4 (by decide) rfl mixed (by decide +kernel) fun K hK => ?_
    | refine W_drwNe 4 (by decide) mixed (by decide +kernel) fun K hK => ?_
    | (refine Zb ?_ ?_ <;> intro hb <;> first | (simp (disch := omega) only [go_sem, zz1, zz2] at hb; done) | (simp (disch := omega) only [go_sem, zz1, zz2] at hb; try omega) | try omega)
    | (refine Zl ?_; intro bn hnil; (try simp (disch := omega) only [go_sem, zz1, zz2] at hnil); dsimp only [putT, List.set_cons_succ, List.set_cons_zero])
  have c1 := sort_F cmp_ok (ltC_cmp ▸ swo_goes) (s.xs.take s.n).toArray s.n (by simp; omega) (by omega) 10
  rw [hso] at c1
  have hn := v.n
  repeat' first
    | refine Z0 ?_
    | refine Zx ?_
    | refine Zfc c1 ?_
    | (refine Ze ?_; clear hK K)
    | refine W_regNe 5 (by decide) fun K hK => ?_
    | refine W_drwRNe 5 (by decide) rfl mixed (by decide +kernel) fun K hK => ?_
    | refine W_drwNe 5 (by decide) mixed (by decide +kernel) fun K hK => ?_
    | (refine Zb ?_ ?_ <;> intro hb <;> first | (simp (disch := omega) only [go_sem] at hb; done) | (simp (disch := omega) only [go_sem] at hb; try omega) | try omega)
    | (refine Zl ?_; intro bn hnil; (try simp (disch := omega) only [go_sem] at hnil); dsimp only [putT, List.set_cons_succ, List.set_cons_zero])
  (apply W_frzI 10 (l) (s.n); (case hl => simp only [go_sem]; exact rfl); (case e => first | rfl | (simp; done) | (simp [rws, Enc.enc]; done)); (case hn => first | rfl | (simp; done) | omega); (case e1 => exact subT); (case e2 => exact subU))
  repeat' first
    | refine Z0 ?_
    | refine Zx ?_
    | (refine Ze ?_; clear hK K)
    | refine W_reg fun K hK => ?_
    | refine W_drwR rfl mixed (by decide +kernel) fun K hK => ?_
    | refine W_drw mixed (by decide +kernel) fun K hK => ?_
    | (refine Zb ?_ ?_ <;> intro hb <;> first | (simp (disch := omega) only [go_sem] at hb; done) | (simp (disch := omega) only [go_sem] at hb; try omega) | try omega)
    | (refine Zl ?_; intro bn hnil; (try simp (disch := omega) only [go_sem] at hnil); dsimp only [putT, List.set_cons_succ, List.set_cons_zero])
  exact Zrf

theorem list1_ok (s : HS) (l : List TItem) (v : View s l) : HCall Try.prog 40 [.ptr 0 1 0 0] (hobs 0 1 2 s) 3 (fun r h _ => r = .ref 10 s.n 0 s.n false s.n ∧ h = (10, .arr 2 (rws l)) :: hobs 0 1 2 s) := by
  have hle := v.g.le
  have hlen := v.g.len
  have t1 : (rws s.xs).take s.n = rws (s.xs.take s.n) := rws_take _ _
  have t3 : (s.xs.take s.n).length = s.n := by rw [List.length_take]; omega
  have hso := sort_view v
  have c1 := sort_F cmp_ok (ltC_cmp ▸ swo_goes) (s.xs.take s.n).toArray s.n (by simp; omega) (by omega) 10
  rw [hso] at c1
  have hn := v.n
  refine HCall_intro (c := Try.f40.body.getD .skip) Try.func40 rfl (by decide +kernel) (W_start ?_)
  simp only [Try.f40, go_sem]
  have zz1 := t1
  have zz2 := t3
  repeat' first
    | refine Z2 ?_
    | refine Zx ?_
    | refine Zfc c1 ?_
    | (refine Ze ?_; clear hK K)
    | refine W_reg fun K hK => ?_
    | refine W_drwR rfl mixed (by decide +kernel) fun K hK => ?_
    | refine W_drw mixed (by decide +kernel) fun K hK => ?_
    | (refine Zb ?_ ?_ <;> intro hb <;> first | (simp (disch := omega) only [go_sem, zz1, zz2] at hb; done) | (simp (disch := omega) only [go_sem, zz1, zz2] at hb; try omega) | try omega)
    | (refine Zl ?_; intro bn hnil; (try simp (disch := omega) only [go_sem, zz1, zz2] at hnil); dsimp only [putT, List.set_cons_succ, List.set_cons_zero])
  exact Zrf

theorem list_V {s : HS} {l : List TItem} (v : View s l) {H a m : Nat} (hd : H ≠ a ∧ H ≠ m ∧ a ≠ m) : FCall Try.prog 40 [.ptr H 1 0 0] (hobs H a m s) (.sl (rws l) none) (hobs H a m s) :=
  FCall.heap (list0_ok s l v) hd (by simp [lfA_leaf, lf_ptr]) (.leaf _ ((lf_rws _ _ _).2 trivial)) rfl (renA_fz (rws_fz _ _))

theorem list_N {s : HS} {l : List TItem} (v : View s l) {H a m : Nat} (hd : H ≠ a ∧ H ≠ m ∧ a ≠ m) : FNCall Try.prog 40 [.ptr H 1 0 0] (hobs H a m s) (fun j => .ref j s.n 0 s.n false s.n) (fun _ => hobs H a m s) (fun _ => .arr 2 (rws l)) := by
  refine FNCall.of (f := num3 H a m) (k := 10) (L0' := hobs 0 1 2 s) (list1_ok s l v) rfl (by simp) (fun e he => ?_) (num3_inj hd.1 hd.2.1 hd.2.2) (hobs_lf s) (fun e he => ?_) (lfA_leaf ((lf_ref _ _ _ _ _ _ _).2 (by simp))) (by simp [lfA_leaf, lf_ptr]) rfl ?_ (fun j => ?_) (fun j => ?_) (fun j => ?_)
  · simp only [List.mem_cons, List.not_mem_nil, or_false] at he
    rcases he with rfl | rfl | rfl <;> simp
  · simp only [List.mem_cons, List.not_mem_nil, or_false] at he
    rcases he with rfl | rfl | rfl | rfl
    · simp [lfO_rws]
    · simp [lfO_mpe]
    · simp [lfO_rws]
    · simp [lfO_row, lf_ref, lf_mapv]
  · simp only [hobs, hrow, renH, renO, ren_rws, ren0, num3, List.map_cons, List.map_nil]
  · simp only [hobs, hrow, renH, renO, ren_rws, ren0, num3, List.map_cons, List.map_nil]; rfl
  · rfl
  · simp only [renO, ren_rws]

/-! ### The reference -/
theorem rfind_ok (L : List TItem) (id : Int) (hl : L.length ≤ 5000) : PCall Try.prog 38 [.sl (rws L) none, .int .i64 id] (· = .int .i64 (idx (fun d => decide (d.iD = id)) L)) := by
  refine PCall_intro (c := Try.f38.body.getD .skip) Try.func38 rfl (by decide +kernel) Zf (W_start ?_)
  simp only [Try.f38, go_sem]
  repeat' first
    | refine Z0 ?_
    | refine Zx ?_
    | (refine Ze ?_; clear hK K)
    | refine W_reg fun K hK => ?_
    | refine W_drwR rfl mixed (by decide +kernel) fun K hK => ?_
    | refine W_drw mixed (by decide +kernel) fun K hK => ?_
    | (refine Zb ?_ ?_ <;> intro hb <;> first | (simp (disch := omega) only [go_sem] at hb; done) | (simp (disch := omega) only [go_sem] at hb; try omega) | try omega)
    | (refine Zl ?_; intro bn hnil; (try simp (disch := omega) only [go_sem] at hnil); dsimp only [putT, List.set_cons_succ, List.set_cons_zero])
  refine W_foldK (fun (i : Nat) => [none, none, none, none, some .junk, some (.int .i64 i), some .junk, some .junk, some .junk, some .junk, some .junk, some .junk, some .junk, some .junk, some .junk, some .junk, some .junk, some .junk, some .junk, some .junk]) (fun i => i ≤ L.length ∧ ∀ k y, k < i → L[k]? = some y → (fun d : TItem => decide (d.iD = id)) y = false) (fun i => L.length - i) 0 ⟨by omega, by omega⟩ (by exact weak_mk wkD wkH wkN wkM (by omega)) ?_
  rintro i ⟨h1, h2⟩
  simp only [msk_none, msk_some, msk_nil]
  by_cases hi : i < L.length
  · obtain ⟨x, hx⟩ := some_of_lt hi
    by_cases e : x.iD = id
    · rw [idx_at hx (by simp [e]) h2]
      have zz1 := rws_get hx
      have zz2 := e
      repeat' first
        | refine Z2 ?_
        | refine Zx ?_
        | (refine Ze ?_; clear hK K)
        | refine W_reg fun K hK => ?_
        | refine W_drwR rfl mixed (by decide +kernel) fun K hK => ?_
        | refine W_drw mixed (by decide +kernel) fun K hK => ?_
        | (refine Zb ?_ ?_ <;> intro hb <;> first | (simp (disch := omega) only [go_sem, zz1, zz2] at hb; done) | (simp (disch := omega) only [go_sem, zz1, zz2] at hb; try omega) | try omega)
        | (refine Zl ?_; intro bn hnil; (try simp (disch := omega) only [go_sem, zz1, zz2] at hnil); dsimp only [putT, List.set_cons_succ, List.set_cons_zero])
      exact Zr
    · have zz1 := rws_get hx
      have zz2 := e
      repeat' first
        | refine Z2 ?_
        | refine Zx ?_
        | (refine Ze ?_; clear hK K)
        | refine W_reg fun K hK => ?_
        | refine W_drwR rfl mixed (by decide +kernel) fun K hK => ?_
        | refine W_drw mixed (by decide +kernel) fun K hK => ?_
        | (refine Zb ?_ ?_ <;> intro hb <;> first | (simp (disch := omega) only [go_sem, zz1, zz2] at hb; done) | (simp (disch := omega) only [go_sem, zz1, zz2] at hb; try omega) | try omega)
        | (refine Zl ?_; intro bn hnil; (try simp (disch := omega) only [go_sem, zz1, zz2] at hnil); dsimp only [putT, List.set_cons_succ, List.set_cons_zero])
      exact L_next ⟨i + 1, by omega, ⟨by omega, no_step hx (by simp [e]) h2⟩, (by exact weak_mk wkD wkH wkN wkM (by omega))⟩
  · obtain rfl : i = L.length := by omega
    rw [idx_none h2]
    repeat' first
      | refine Z0 ?_
      | refine Zx ?_
      | (refine Ze ?_; clear hK K)
      | refine W_reg fun K hK => ?_
      | refine W_drwR rfl mixed (by decide +kernel) fun K hK => ?_
      | refine W_drw mixed (by decide +kernel) fun K hK => ?_
      | (refine Zb ?_ ?_ <;> intro hb <;> first | (simp (disch := omega) only [go_sem] at hb; done) | (simp (disch := omega) only [go_sem] at hb; try omega) | try omega)
      | (refine Zl ?_; intro bn hnil; (try simp (disch := omega) only [go_sem] at hnil); dsimp only [putT, List.set_cons_succ, List.set_cons_zero])
    exact Zr

theorem same_ok (a b : List TItem) (ha : a.length ≤ 4294967296) (hb : b.length ≤ 4294967296) : PCall Try.prog 39 [.sl (rws a) none, .sl (rws b) none] (· = .bool (decide (a = b))) := by
  refine PCall_intro (c := Try.f39.body.getD .skip) Try.func39 rfl (by decide +kernel) Zf (W_start ?_)
  simp only [Try.f39, go_sem]
  by_cases hl : a.length = b.length
  · repeat' first
      | refine Z0 ?_
      | refine Zx ?_
      | (refine Ze ?_; clear hK K)
      | refine W_reg fun K hK => ?_
      | refine W_drwR rfl mixed (by decide +kernel) fun K hK => ?_
      | refine W_drw mixed (by decide +kernel) fun K hK => ?_
      | (refine Zb ?_ ?_ <;> intro hb <;> first | (simp (disch := omega) only [go_sem] at hb; done) | (simp (disch := omega) only [go_sem] at hb; try omega) | try omega)
      | (refine Zl ?_; intro bn hnil; (try simp (disch := omega) only [go_sem] at hnil); dsimp only [putT, List.set_cons_succ, List.set_cons_zero])
    refine W_foldK (fun (i : Nat) => [none, none, none, none, some .junk, some (.int .i64 i), none, none, none, none, none, some .junk, some .junk, some .junk, some .junk, some .junk, some .junk, some .junk, some .junk, some .junk, some .junk, some .junk, some .junk, some .junk, some .junk, some .junk]) (fun i => i ≤ a.length ∧ ∀ k, k < i → a[k]? = b[k]?) (fun i => a.length - i) 0 ⟨by omega, by omega⟩ (by exact weak_mk wkD wkH wkN wkM (by omega)) ?_
    rintro i ⟨h1, h2⟩
    simp only [msk_none, msk_some, msk_nil]
    rcases Nat.lt_or_ge i a.length with h4 | h4
    · obtain ⟨x, hx⟩ := some_of_lt h4
      obtain ⟨y, hy⟩ := some_of_lt (show i < b.length by omega)
      by_cases e : x = y
      · subst e
        have zz1 := rws_get hx
        have zz2 := rws_get hy
        repeat' first
          | refine Z2 ?_
          | refine Zx ?_
          | (refine Ze ?_; clear hK K)
          | refine W_reg fun K hK => ?_
          | refine W_drwR rfl mixed (by decide +kernel) fun K hK => ?_
          | refine W_drw mixed (by decide +kernel) fun K hK => ?_
          | (refine Zb ?_ ?_ <;> intro hb <;> first | (simp (disch := omega) only [go_sem, zz1, zz2] at hb; done) | (simp (disch := omega) only [go_sem, zz1, zz2] at hb; try omega) | try omega)
          | (refine Zl ?_; intro bn hnil; (try simp (disch := omega) only [go_sem, zz1, zz2] at hnil); dsimp only [putT, List.set_cons_succ, List.set_cons_zero])
        exact L_next ⟨i + 1, by omega, ⟨by omega, fun k hk => by
          by_cases e2 : k = i
          · subst e2; rw [hx, hy]
          · exact h2 k (by omega)⟩, (by exact weak_mk wkD wkH wkN wkM (by omega))⟩
      · have : decide (a = b) = false := by
          rw [decide_eq_false_iff_not]
          rintro rfl
          rw [hx] at hy
          exact e (Option.some.inj hy)
        rw [this]
        have zz1 := rws_get hx
        have zz2 := rws_get hy
        have zz3 := e
        repeat' first
          | refine Z3 ?_
          | refine Zx ?_
          | (refine Ze ?_; clear hK K)
          | refine W_reg fun K hK => ?_
          | refine W_drwR rfl mixed (by decide +kernel) fun K hK => ?_
          | refine W_drw mixed (by decide +kernel) fun K hK => ?_
          | (refine Zb ?_ ?_ <;> intro hb <;> first | (simp (disch := omega) only [go_sem, zz1, zz2, zz3] at hb; done) | (simp (disch := omega) only [go_sem, zz1, zz2, zz3] at hb; try omega) | try omega)
          | (refine Zl ?_; intro bn hnil; (try simp (disch := omega) only [go_sem, zz1, zz2, zz3] at hnil); dsimp only [putT, List.set_cons_succ, List.set_cons_zero])
        exact Zr
    · have : decide (a = b) = true := by
        rw [decide_eq_true_eq]
        apply List.ext_getElem?
        intro k
        by_cases hk : k < a.length
        · exact h2 k (by omega)
        · rw [List.getElem?_eq_none (by omega), List.getElem?_eq_none (by omega)]
      rw [this]
      repeat' first
        | refine Z0 ?_
        | refine Zx ?_
        | (refine Ze ?_; clear hK K)
        | refine W_reg fun K hK => ?_
        | refine W_drwR rfl mixed (by decide +kernel) fun K hK => ?_
        | refine W_drw mixed (by decide +kernel) fun K hK => ?_
        | (refine Zb ?_ ?_ <;> intro hb <;> first | (simp (disch := omega) only [go_sem] at hb; done) | (simp (disch := omega) only [go_sem] at hb; try omega) | try omega)
        | (refine Zl ?_; intro bn hnil; (try simp (disch := omega) only [go_sem] at hnil); dsimp only [putT, List.set_cons_succ, List.set_cons_zero])
      exact Zr
  · have : decide (a = b) = false := by
      rw [decide_eq_false_iff_not]
      rintro rfl
      exact hl rfl
    rw [this]
    repeat' first
      | refine Z0 ?_
      | refine Zx ?_
      | (refine Ze ?_; clear hK K)
      | refine W_reg fun K hK => ?_
      | refine W_drwR rfl mixed (by decide +kernel) fun K hK => ?_
      | refine W_drw mixed (by decide +kernel) fun K hK => ?_
      | (refine Zb ?_ ?_ <;> intro hb <;> first | (simp (disch := omega) only [go_sem] at hb; done) | (simp (disch := omega) only [go_sem] at hb; try omega) | try omega)
      | (refine Zl ?_; intro bn hnil; (try simp (disch := omega) only [go_sem] at hnil); dsimp only [putT, List.set_cons_succ, List.set_cons_zero])
    exact Zr

theorem rfirst_ok (a b : TItem) : PCall Try.prog 48 [.agg (Enc.enc a), .agg (Enc.enc b)] (· = .bool (goesB a b)) := by
  unfold goesB
  refine PCall_intro (c := Try.f48.body.getD .skip) Try.func48 rfl (by decide +kernel) Zf (W_start ?_)
  simp only [Try.f48, go_sem]
  repeat' first
    | refine Z0 ?_
    | refine Zx ?_
    | (refine Ze ?_; clear hK K)
    | refine W_reg fun K hK => ?_
    | refine W_drwR rfl mixed (by decide +kernel) fun K hK => ?_
    | refine W_drw mixed (by decide +kernel) fun K hK => ?_
    | (refine Zb ?_ ?_ <;> intro hb <;> first | (simp (disch := omega) only [go_sem] at hb; done) | (simp (disch := omega) only [go_sem] at hb; try omega) | try omega)
    | (refine Zl ?_; intro bn hnil; (try simp (disch := omega) only [go_sem] at hnil); dsimp only [putT, List.set_cons_succ, List.set_cons_zero])
  all_goals try (refine retQ_bool rfl ?_; simp [goesB, *]; done)

end Go.Proofs.Ytfbmbjfcgoahfaa
