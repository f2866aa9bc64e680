/-
  The reference's clock; walked.
-/
import Derived.Test.YtfbmbjfcgoahfaaF10
import Derived.Test.YtfbmbjfcgoahfaaM6
namespace Go.Proofs.Ytfbmbjfcgoahfaa
open Go Go.AM
set_option maxHeartbeats 8000000
set_option maxRecDepth 8000
set_option linter.unusedSimpArgs false
set_option linter.unusedVariables false

abbrev rrow (a : Nat) (now : Int) (n : Nat) : List AVal := [.int .i64 now, .ref a n 0 n false n]
abbrev robs (D a : Nat) (now : Int) (L : List TDue) : Heap := [(a, .arr 2 (rws L)), (D, .arr 2 [rrow a now L.length])]

def num2 (a b : Nat) : Nat → Nat
  | 0 => a
  | _ => b

theorem num2_inj {D a : Nat} (hd : D ≠ a) (i j : Nat) (hi : i ∈ [1, 0]) (hj : j ∈ [1, 0]) (e : num2 D a i = num2 D a j) : i = j := by
  simp only [List.mem_cons, List.not_mem_nil, or_false] at hi hj
  rcases hi with rfl | rfl <;> rcases hj with rfl | rfl <;> simp only [num2] at e <;> first | rfl | omega

theorem robs_lf (now : Int) (L : List TDue) : ∀ e, e ∈ robs 0 1 now L → LfO (fun i => i ∈ [1, 0]) e.2 := by
  intro e he
  simp only [List.mem_cons, List.not_mem_nil, or_false] at he
  rcases he with rfl | rfl
  · simp [lfO_rws]
  · simp [lfO_row, lf_ref, lf_int]

theorem FCall.rclk {g : FuncId} {args0 args : List AVal} {r0 r : AVal} {n n' : Int} {L L' : List TDue} (hc : HCall Try.prog g args0 (robs 0 1 n L) 2 fun r h _ => r = r0 ∧ h = robs 0 1 n' L') {D a : Nat} (hd : D ≠ a)
    (ha : ∀ x, x ∈ args0 → LfA (fun i => i ∈ [1, 0]) x) (hr : LfA (fun i => i ∈ [1, 0]) r0) (ea : args0.map (renA (num2 D a)) = args) (er : renA (num2 D a) r0 = r) : FCall Try.prog g args (robs D a n L) r (robs D a n' L') := by
  refine FCall.of (f := num2 D a) hc rfl (by simp) (fun e he => ?_) (num2_inj hd) (robs_lf n L) (robs_lf n' L') hr ha ea ?_ ?_ er
  · simp only [List.mem_cons, List.not_mem_nil, or_false] at he
    rcases he with rfl | rfl <;> simp
  · simp only [robs, rrow, renH, renO, ren_rws, ren0, num2, List.map_cons, List.map_nil]
  · simp only [robs, rrow, renH, renO, ren_rws, ren0, num2, List.map_cons, List.map_nil]

theorem first0_r (now : Int) (L : List TDue) (hl : L.length ≤ 5000) : HCall Try.prog 47 [.ptr 0 1 0 0] (robs 0 1 now L) 2 (fun r h _ => r = .int .i64 (fstI L L.length) ∧ h = robs 0 1 now L) := by
  refine HCall_intro (c := Try.f47.body.getD .skip) Try.func47 rfl (by decide +kernel) (W_start ?_)
  simp only [Try.f47, go_sem]
  repeat' first
    | refine Z0 ?_
    | refine Zx ?_
    | (refine Ze ?_; clear hK K)
    | refine W_reg fun K hK => ?_
    | refine W_drwR rfl mixed (by decide +kernel) fun K hK => ?_
    | refine W_drw mixed (by decide +kernel) fun K hK => ?_
    | (refine Zb ?_ ?_ <;> intro hb <;> first | (simp (disch := omega) only [go_sem] at hb; done) | (simp (disch := omega) only [go_sem] at hb; try omega) | try omega)
    | (refine Zl ?_; intro bn hnil; (try simp (disch := omega) only [go_sem] at hnil); dsimp only [putT, List.set_cons_succ, List.set_cons_zero])
  refine W_foldK (fun (i : Nat) => [none, none, none, some (.int .i64 (fstI L i)), some (.int .i64 i), some .junk, some .junk, some .junk, some .junk, some .junk, some .junk, some .junk, some .junk, some .junk, some .junk, some .junk, some .junk, some .junk, some .junk, some .junk, some .junk, some .junk, some .junk, some .junk, some .junk, some .junk, some .junk, some .junk, some .junk, some .junk, some .junk, some .junk, some .junk, some .junk, some .junk, some .junk, some .junk, some .junk, some .junk, some .junk, some .junk, some .junk, some .junk, some .junk, some .junk, some .junk, some .junk, some .junk, some .junk, some .junk, some .junk, some .junk, some .junk, some .junk, some .junk, some .junk, some .junk, some .junk, some .junk, some .junk, some .junk, some .junk, some .junk, some .junk, some .junk, some .junk, some .junk, some .junk, some .junk, some .junk, some .junk, some .junk, some .junk, some .junk]) (fun i => i ≤ L.length) (fun i => L.length - i) 0 (by omega) (by rw [show fstI L 0 = -1 from rfl]; exact (by exact weak_mk wkD wkH wkN wkM (by omega))) ?_
  rintro i h1
  simp only [msk_none, msk_some, msk_nil]
  by_cases hi : i < L.length
  · have x1 := dat_get hi
    rcases fstI_law L i h1 with ⟨e0, e1⟩ | ⟨b, e1, e2, e3⟩
    · have e4 : fstI L (i + 1) = (i : Int) := by rw [fstI, if_pos (.inl (by omega))]
      have zz1 := e1
      have zz2 := rws_get x1
      repeat' first
        | refine Z2 ?_
        | refine Zx ?_
        | (refine Ze ?_; clear hK K)
        | refine W_reg fun K hK => ?_
        | refine W_drwR rfl mixed (by decide +kernel) fun K hK => ?_
        | refine W_drw mixed (by decide +kernel) fun K hK => ?_
        | (refine Zb ?_ ?_ <;> intro hb <;> first | (simp (disch := omega) only [go_sem, zz1, zz2] at hb; done) | (simp (disch := omega) only [go_sem, zz1, zz2] at hb; try omega) | try omega)
        | (refine Zl ?_; intro bn hnil; (try simp (disch := omega) only [go_sem, zz1, zz2] at hnil); dsimp only [putT, List.set_cons_succ, List.set_cons_zero])
      exact L_next ⟨i + 1, by omega, by omega, by rw [e4]; exact (by exact weak_mk wkD wkH wkN wkM (by omega))⟩
    · have x2 := dat_get (L := L) (i := b) (by omega)
      by_cases h4 : ltD (dat L i) (dat L b)
      · have e4 : fstI L (i + 1) = (i : Int) := by rw [fstI, e1, if_pos (.inr (by simpa using h4))]
        unfold ltD at h4
        rcases h4 with h4 | h4
        · have zz1 := e1
          have zz2 := rws_get x1
          have zz3 := rws_get x2
          repeat' first
            | refine Z3 ?_
            | refine Zx ?_
            | (refine Ze ?_; clear hK K)
            | refine W_reg fun K hK => ?_
            | refine W_drwR rfl mixed (by decide +kernel) fun K hK => ?_
            | refine W_drw mixed (by decide +kernel) fun K hK => ?_
            | (refine Zb ?_ ?_ <;> intro hb <;> first | (simp (disch := omega) only [go_sem, zz1, zz2, zz3] at hb; done) | (simp (disch := omega) only [go_sem, zz1, zz2, zz3] at hb; try omega) | try omega)
            | (refine Zl ?_; intro bn hnil; (try simp (disch := omega) only [go_sem, zz1, zz2, zz3] at hnil); dsimp only [putT, List.set_cons_succ, List.set_cons_zero])
          all_goals exact L_next ⟨i + 1, by omega, by omega, by rw [e4]; exact (by exact weak_mk wkD wkH wkN wkM (by omega))⟩
        · have zz1 := e1
          have zz2 := rws_get x1
          have zz3 := rws_get x2
          repeat' first
            | refine Z3 ?_
            | refine Zx ?_
            | (refine Ze ?_; clear hK K)
            | refine W_reg fun K hK => ?_
            | refine W_drwR rfl mixed (by decide +kernel) fun K hK => ?_
            | refine W_drw mixed (by decide +kernel) fun K hK => ?_
            | (refine Zb ?_ ?_ <;> intro hb <;> first | (simp (disch := omega) only [go_sem, zz1, zz2, zz3] at hb; done) | (simp (disch := omega) only [go_sem, zz1, zz2, zz3] at hb; try omega) | try omega)
            | (refine Zl ?_; intro bn hnil; (try simp (disch := omega) only [go_sem, zz1, zz2, zz3] at hnil); dsimp only [putT, List.set_cons_succ, List.set_cons_zero])
          all_goals exact L_next ⟨i + 1, by omega, by omega, by rw [e4]; exact (by exact weak_mk wkD wkH wkN wkM (by omega))⟩
      · have e4 : fstI L (i + 1) = (b : Int) := by rw [fstI, e1, if_neg (by simp only [Int.toNat_natCast, not_or]; exact ⟨by omega, h4⟩)]
        unfold ltD at h4
        have zz1 := e1
        have zz2 := rws_get x1
        have zz3 := rws_get x2
        repeat' first
          | refine Z3 ?_
          | refine Zx ?_
          | (refine Ze ?_; clear hK K)
          | refine W_reg fun K hK => ?_
          | refine W_drwR rfl mixed (by decide +kernel) fun K hK => ?_
          | refine W_drw mixed (by decide +kernel) fun K hK => ?_
          | (refine Zb ?_ ?_ <;> intro hb <;> first | (simp (disch := omega) only [go_sem, zz1, zz2, zz3] at hb; done) | (simp (disch := omega) only [go_sem, zz1, zz2, zz3] at hb; try omega) | try omega)
          | (refine Zl ?_; intro bn hnil; (try simp (disch := omega) only [go_sem, zz1, zz2, zz3] at hnil); dsimp only [putT, List.set_cons_succ, List.set_cons_zero])
        all_goals exact L_next ⟨i + 1, by omega, by omega, by rw [e4, ← e1]; exact (by exact weak_mk wkD wkH wkN wkM (by omega))⟩
  · obtain rfl : i = L.length := by omega
    repeat' first
      | refine Z0 ?_
      | refine Zx ?_
      | (refine Ze ?_; clear hK K)
      | refine W_reg fun K hK => ?_
      | refine W_drwR rfl mixed (by decide +kernel) fun K hK => ?_
      | refine W_drw mixed (by decide +kernel) fun K hK => ?_
      | (refine Zb ?_ ?_ <;> intro hb <;> first | (simp (disch := omega) only [go_sem] at hb; done) | (simp (disch := omega) only [go_sem] at hb; try omega) | try omega)
      | (refine Zl ?_; intro bn hnil; (try simp (disch := omega) only [go_sem] at hnil); dsimp only [putT, List.set_cons_succ, List.set_cons_zero])
    exact Zrf

theorem first_R (now : Int) (L : List TDue) (hl : L.length ≤ 5000) {D a : Nat} (hd : D ≠ a) : FCall Try.prog 47 [.ptr D 1 0 0] (robs D a now L) (.int .i64 (fstI L L.length)) (robs D a now L) :=
  FCall.rclk (first0_r now L hl) hd (by simp [lfA_leaf, lf_ptr, lf_int]) (.leaf _ (.fz _ (.int _ _))) rfl rfl

theorem find_r (L : List TDue) (id : Int) (hl : L.length ≤ 5000) : PCall Try.prog 45 [.sl (rws L) none, .int .i64 id] (· = .int .i64 (idx (fun d => decide (d.iD = id)) L)) := by
  refine PCall_intro (c := Try.f45.body.getD .skip) Try.func45 rfl (by decide +kernel) Zf (W_start ?_)
  simp only [Try.f45, go_sem]
  repeat' first
    | refine Z0 ?_
    | refine Zx ?_
    | (refine Ze ?_; clear hK K)
    | refine W_reg fun K hK => ?_
    | refine W_drwR rfl mixed (by decide +kernel) fun K hK => ?_
    | refine W_drw mixed (by decide +kernel) fun K hK => ?_
    | (refine Zb ?_ ?_ <;> intro hb <;> first | (simp (disch := omega) only [go_sem] at hb; done) | (simp (disch := omega) only [go_sem] at hb; try omega) | try omega)
    | (refine Zl ?_; intro bn hnil; (try simp (disch := omega) only [go_sem] at hnil); dsimp only [putT, List.set_cons_succ, List.set_cons_zero])
  refine W_foldK (fun (i : Nat) => [none, none, none, none, some .junk, some (.int .i64 i), some .junk, some .junk, some .junk, some .junk, some .junk, some .junk, some .junk, some .junk, some .junk, some .junk, some .junk, some .junk, some .junk, some .junk]) (fun i => i ≤ L.length ∧ ∀ k y, k < i → L[k]? = some y → (fun d : TDue => decide (d.iD = id)) y = false) (fun i => L.length - i) 0 ⟨by omega, by omega⟩ (by exact weak_mk wkD wkH wkN wkM (by omega)) ?_
  rintro i ⟨h1, h2⟩
  simp only [msk_none, msk_some, msk_nil]
  by_cases hi : i < L.length
  · obtain ⟨x, hx⟩ := some_of_lt hi
    by_cases e : x.iD = id
    · rw [idx_at hx (by simp [e]) h2]
      have zz1 := rws_get hx
      have zz2 := e
      repeat' first
        | refine Z2 ?_
        | refine Zx ?_
        | (refine Ze ?_; clear hK K)
        | refine W_reg fun K hK => ?_
        | refine W_drwR rfl mixed (by decide +kernel) fun K hK => ?_
        | refine W_drw mixed (by decide +kernel) fun K hK => ?_
        | (refine Zb ?_ ?_ <;> intro hb <;> first | (simp (disch := omega) only [go_sem, zz1, zz2] at hb; done) | (simp (disch := omega) only [go_sem, zz1, zz2] at hb; try omega) | try omega)
        | (refine Zl ?_; intro bn hnil; (try simp (disch := omega) only [go_sem, zz1, zz2] at hnil); dsimp only [putT, List.set_cons_succ, List.set_cons_zero])
      exact Zr
    · have zz1 := rws_get hx
      have zz2 := e
      repeat' first
        | refine Z2 ?_
        | refine Zx ?_
        | (refine Ze ?_; clear hK K)
        | refine W_reg fun K hK => ?_
        | refine W_drwR rfl mixed (by decide +kernel) fun K hK => ?_
        | refine W_drw mixed (by decide +kernel) fun K hK => ?_
        | (refine Zb ?_ ?_ <;> intro hb <;> first | (simp (disch := omega) only [go_sem, zz1, zz2] at hb; done) | (simp (disch := omega) only [go_sem, zz1, zz2] at hb; try omega) | try omega)
        | (refine Zl ?_; intro bn hnil; (try simp (disch := omega) only [go_sem, zz1, zz2] at hnil); dsimp only [putT, List.set_cons_succ, List.set_cons_zero])
      exact L_next ⟨i + 1, by omega, ⟨by omega, no_step hx (by simp [e]) h2⟩, (by exact weak_mk wkD wkH wkN wkM (by omega))⟩
  · obtain rfl : i = L.length := by omega
    rw [idx_none h2]
    repeat' first
      | refine Z0 ?_
      | refine Zx ?_
      | (refine Ze ?_; clear hK K)
      | refine W_reg fun K hK => ?_
      | refine W_drwR rfl mixed (by decide +kernel) fun K hK => ?_
      | refine W_drw mixed (by decide +kernel) fun K hK => ?_
      | (refine Zb ?_ ?_ <;> intro hb <;> first | (simp (disch := omega) only [go_sem] at hb; done) | (simp (disch := omega) only [go_sem] at hb; try omega) | try omega)
      | (refine Zl ?_; intro bn hnil; (try simp (disch := omega) only [go_sem] at hnil); dsimp only [putT, List.set_cons_succ, List.set_cons_zero])
    exact Zr

theorem without_r (L : List TDue) (b : Nat) (hb : b < L.length) (hl : L.length ≤ 5000) : PNew Try.prog 46 [.sl (rws L) none, .int .i64 b] (fun j => .ref j (L.length - 1) 0 (L.length - 1) false (L.length - 1)) (.arr 2 (rws (L.eraseIdx b))) := by
  have hel : (L.eraseIdx b).length = L.length - 1 := by rw [List.length_eraseIdx, if_pos hb]
  rw [← hel]
  refine PNew_body (c := Try.f46.body.getD .skip) Try.func46 rfl (by decide +kernel) Zf (.ref _ _ _ _ _) (rws_mem _) (W_start ?_)
  simp only [Try.f46, go_sem]
  repeat' first
    | refine Z0 ?_
    | refine Zx ?_
    | (refine Ze ?_; clear hK K)
    | refine W_reg fun K hK => ?_
    | refine W_drwR rfl mixed (by decide +kernel) fun K hK => ?_
    | refine W_drw mixed (by decide +kernel) fun K hK => ?_
    | (refine Zb ?_ ?_ <;> intro hb <;> first | (simp (disch := omega) only [go_sem] at hb; done) | (simp (disch := omega) only [go_sem] at hb; try omega) | try omega)
    | (refine Zl ?_; intro bn hnil; (try simp (disch := omega) only [go_sem] at hnil); dsimp only [putT, List.set_cons_succ, List.set_cons_zero])
  (apply W_unbornAt 5 2; (case ht => exact rfl); (case e => exact sT); (case hn => exact nT))
  refine W_foldA (fun id (a : Nat × List TDue) => [none, none, none, none, none, some (.ref id a.2.length 0 a.2.length false a.2.length), some (.int .i64 a.1), some .junk, some .junk, some .junk, some .junk, some .junk, some .junk, some .junk, some .junk, some .junk, some .junk, some .junk, some .junk, some .junk, some .junk, some .junk, some .junk]) (fun a => rws a.2) (fun a => a.1 ≤ L.length ∧ a.2 = (L.take a.1).eraseIdx b ∧ a.2.length ≤ a.1) (fun a => L.length - a.1) (0, []) ⟨by omega, by simp, by simp⟩ (by exact weak_mk wkD wkH wkN wkM (by omega)) ?_
  rintro ⟨i, out⟩ ⟨h1, h2, h3⟩
  simp only [] at h1 h2 h3
  simp only [msk_none, msk_some, msk_nil]
  by_cases hi : i < L.length
  · obtain ⟨x, hx⟩ := some_of_lt hi
    have ht : (L.take i).length = i := by simp; omega
    by_cases e : i = b
    · have h5 : (L.take (i + 1)).eraseIdx b = out := by
        rw [take_snoc hx, List.eraseIdx_append_of_length_le (by omega), ht, e, h2, e]
        rw [List.eraseIdx_of_length_le (l := L.take b) (by rw [List.length_take]; omega)]
        simp
      repeat' first
        | refine Z0 ?_
        | refine Zx ?_
        | (refine Ze ?_; clear hK K)
        | refine W_reg fun K hK => ?_
        | refine W_drwR rfl mixed (by decide +kernel) fun K hK => ?_
        | refine W_drw mixed (by decide +kernel) fun K hK => ?_
        | (refine Zb ?_ ?_ <;> intro hb <;> first | (simp (disch := omega) only [go_sem] at hb; done) | (simp (disch := omega) only [go_sem] at hb; try omega) | try omega)
        | (refine Zl ?_; intro bn hnil; (try simp (disch := omega) only [go_sem] at hnil); dsimp only [putT, List.set_cons_succ, List.set_cons_zero])
      exact L_next ⟨(i + 1, out), by simp; omega, ⟨by simp; omega, h5.symm, by simp; omega⟩, (by exact weak_mk wkD wkH wkN wkM (by omega))⟩
    · have h5 : (L.take (i + 1)).eraseIdx b = out ++ [x] := by
        rw [take_snoc hx, h2]
        rcases Nat.lt_or_ge b i with h6 | h6
        · rw [List.eraseIdx_append_of_lt_length (by omega)]
        · rw [List.eraseIdx_of_length_le (by simp; omega), List.eraseIdx_of_length_le (by omega)]
      have r1 := rws_snoc out x
      simp only [enc_TDue] at r1
      have zz1 := rws_get hx
      have zz2 := r1
      repeat' first
        | refine Z2 ?_
        | refine Zx ?_
        | (refine Ze ?_; clear hK K)
        | refine W_reg fun K hK => ?_
        | refine W_drwR rfl mixed (by decide +kernel) fun K hK => ?_
        | refine W_drw mixed (by decide +kernel) fun K hK => ?_
        | (refine Zb ?_ ?_ <;> intro hb <;> first | (simp (disch := omega) only [go_sem, zz1, zz2] at hb; done) | (simp (disch := omega) only [go_sem, zz1, zz2] at hb; try omega) | try omega)
        | (refine Zl ?_; intro bn hnil; (try simp (disch := omega) only [go_sem, zz1, zz2] at hnil); dsimp only [putT, List.set_cons_succ, List.set_cons_zero])
      exact L_next ⟨(i + 1, out ++ [x]), by simp; omega, ⟨by simp; omega, h5.symm, by simp; omega⟩, (by exact weak_mk wkD wkH wkN wkM (by omega))⟩
  · obtain rfl : i = L.length := by omega
    rw [List.take_length] at h2
    subst h2
    repeat' first
      | refine Z0 ?_
      | refine Zx ?_
      | (refine Ze ?_; clear hK K)
      | refine W_reg fun K hK => ?_
      | refine W_drwR rfl mixed (by decide +kernel) fun K hK => ?_
      | refine W_drw mixed (by decide +kernel) fun K hK => ?_
      | (refine Zb ?_ ?_ <;> intro hb <;> first | (simp (disch := omega) only [go_sem] at hb; done) | (simp (disch := omega) only [go_sem] at hb; try omega) | try omega)
      | (refine Zl ?_; intro bn hnil; (try simp (disch := omega) only [go_sem] at hnil); dsimp only [putT, List.set_cons_succ, List.set_cons_zero])
    exact Zrw

theorem rnext0 (now : Int) (L : List TDue) (hl : L.length ≤ 5000) (r : TDue × Bool) (hr : (L = [] ∧ r = (⟨0, 0⟩, false)) ∨ ∃ b : Nat, fstI L L.length = b ∧ L[b]? = some r.1 ∧ r.2 = true) : HCall Try.prog 33 [.ptr 0 1 0 0] (robs 0 1 now L) 2 (fun q h _ => q = dueV r ∧ h = robs 0 1 now L) := by
  have c1 := first_R now L hl (D := 0) (a := 1) (by decide)
  rcases hr with ⟨rfl, rfl⟩ | ⟨b, h1, h2, h3⟩
  · rw [show fstI [] ([] : List TDue).length = -1 from rfl] at c1
    refine HCall_intro (c := Try.f33.body.getD .skip) Try.func33 rfl (by decide +kernel) (W_start ?_)
    simp only [Try.f33, go_sem]
    repeat' first
      | refine Z0 ?_
      | refine Zx ?_
      | refine Zfc c1 ?_
      | (refine Ze ?_; clear hK K)
      | refine W_reg fun K hK => ?_
      | refine W_drwR rfl mixed (by decide +kernel) fun K hK => ?_
      | refine W_drw mixed (by decide +kernel) fun K hK => ?_
      | (refine Zb ?_ ?_ <;> intro hb <;> first | (simp (disch := omega) only [go_sem] at hb; done) | (simp (disch := omega) only [go_sem] at hb; try omega) | try omega)
      | (refine Zl ?_; intro bn hnil; (try simp (disch := omega) only [go_sem] at hnil); dsimp only [putT, List.set_cons_succ, List.set_cons_zero])
    exact Zrf
  · obtain ⟨r1, r2⟩ := r
    simp only [] at h2 h3
    subst h3
    have hb := (List.getElem?_eq_some_iff.1 h2).1
    rw [h1] at c1
    refine HCall_intro (c := Try.f33.body.getD .skip) Try.func33 rfl (by decide +kernel) (W_start ?_)
    simp only [Try.f33, go_sem]
    have zz1 := rws_get h2
    repeat' first
      | refine Z1 ?_
      | refine Zx ?_
      | refine Zfc c1 ?_
      | (refine Ze ?_; clear hK K)
      | refine W_reg fun K hK => ?_
      | refine W_drwR rfl mixed (by decide +kernel) fun K hK => ?_
      | refine W_drw mixed (by decide +kernel) fun K hK => ?_
      | (refine Zb ?_ ?_ <;> intro hb <;> first | (simp (disch := omega) only [go_sem, zz1] at hb; done) | (simp (disch := omega) only [go_sem, zz1] at hb; try omega) | try omega)
      | (refine Zl ?_; intro bn hnil; (try simp (disch := omega) only [go_sem, zz1] at hnil); dsimp only [putT, List.set_cons_succ, List.set_cons_zero])
    exact Zrf

theorem rset0 (now : Int) (L : List TDue) (id at_ : Int) (hl : L.length ≤ 4096) :
    HCall Try.prog 30 [.ptr 0 1 0 0, .int .i64 id, .int .i64 at_] (robs 0 1 now L) 2 (fun q h _ => q = .int .i64 (if at_ ≤ now ∨ at_ > 1099511627776 then 1 else if hasR L id = true then 5 else if L.length ≥ 4096 then 7 else 0) ∧
      h = robs 0 1 now (if (at_ ≤ now ∨ at_ > 1099511627776) ∨ hasR L id = true ∨ L.length ≥ 4096 then L else L ++ [⟨id, at_⟩])) := by
  have c1 := find_r L id (by omega)
  have hi : (0 ≤ idx (fun d : TDue => decide (d.iD = id)) L) ↔ hasR L id = true := by
    have := idx_ge (fun d : TDue => decide (d.iD = id)) L
    unfold hasR
    rw [← this, decide_eq_true_eq]
  generalize idx (fun d : TDue => decide (d.iD = id)) L = I at *
  by_cases h1 : at_ ≤ now ∨ at_ > 1099511627776
  · rw [if_pos h1, if_pos (.inl h1)]
    refine HCall_intro (c := Try.f30.body.getD .skip) Try.func30 rfl (by decide +kernel) (W_start ?_)
    simp only [Try.f30, go_sem]
    repeat' first
      | refine Z0 ?_
      | refine Zx ?_
      | refine Zn c1 ?_
      | (refine Ze ?_; clear hK K)
      | refine W_reg fun K hK => ?_
      | refine W_drwR rfl mixed (by decide +kernel) fun K hK => ?_
      | refine W_drw mixed (by decide +kernel) fun K hK => ?_
      | (refine Zb ?_ ?_ <;> intro hb <;> first | (simp (disch := omega) only [go_sem] at hb; done) | (simp (disch := omega) only [go_sem] at hb; try omega) | try omega)
      | (refine Zl ?_; intro bn hnil; (try simp (disch := omega) only [go_sem] at hnil); dsimp only [putT, List.set_cons_succ, List.set_cons_zero])
    all_goals exact Zrf
  · rw [if_neg h1]
    by_cases h2 : hasR L id = true
    · rw [if_pos h2, if_pos (.inr (.inl h2))]
      have h3 := hi.2 h2
      refine HCall_intro (c := Try.f30.body.getD .skip) Try.func30 rfl (by decide +kernel) (W_start ?_)
      simp only [Try.f30, go_sem]
      repeat' first
        | refine Z0 ?_
        | refine Zx ?_
        | refine Zn c1 ?_
        | (refine Ze ?_; clear hK K)
        | refine W_reg fun K hK => ?_
        | refine W_drwR rfl mixed (by decide +kernel) fun K hK => ?_
        | refine W_drw mixed (by decide +kernel) fun K hK => ?_
        | (refine Zb ?_ ?_ <;> intro hb <;> first | (simp (disch := omega) only [go_sem] at hb; done) | (simp (disch := omega) only [go_sem] at hb; try omega) | try omega)
        | (refine Zl ?_; intro bn hnil; (try simp (disch := omega) only [go_sem] at hnil); dsimp only [putT, List.set_cons_succ, List.set_cons_zero])
      all_goals exact Zrf
    · rw [if_neg h2]
      have h3 : ¬ 0 ≤ I := fun h => h2 (hi.1 h)
      by_cases h4 : L.length ≥ 4096
      · rw [if_pos h4, if_pos (.inr (.inr h4))]
        refine HCall_intro (c := Try.f30.body.getD .skip) Try.func30 rfl (by decide +kernel) (W_start ?_)
        simp only [Try.f30, go_sem]
        repeat' first
          | refine Z0 ?_
          | refine Zx ?_
          | refine Zn c1 ?_
          | (refine Ze ?_; clear hK K)
          | refine W_reg fun K hK => ?_
          | refine W_drwR rfl mixed (by decide +kernel) fun K hK => ?_
          | refine W_drw mixed (by decide +kernel) fun K hK => ?_
          | (refine Zb ?_ ?_ <;> intro hb <;> first | (simp (disch := omega) only [go_sem] at hb; done) | (simp (disch := omega) only [go_sem] at hb; try omega) | try omega)
          | (refine Zl ?_; intro bn hnil; (try simp (disch := omega) only [go_sem] at hnil); dsimp only [putT, List.set_cons_succ, List.set_cons_zero])
        all_goals exact Zrf
      · rw [if_neg h4, if_neg (fun h => h.elim h1 fun h => h.elim h2 h4)]
        have r1 := rws_snoc L ⟨id, at_⟩
        simp only [enc_TDue] at r1
        refine HCall_intro (c := Try.f30.body.getD .skip) Try.func30 rfl (by decide +kernel) (W_start ?_)
        simp only [Try.f30, go_sem]
        have zz1 := r1
        repeat' first
          | refine Z1 ?_
          | refine Zx ?_
          | refine Zn c1 ?_
          | (refine Ze ?_; clear hK K)
          | refine W_reg fun K hK => ?_
          | refine W_drwR rfl mixed (by decide +kernel) fun K hK => ?_
          | refine W_drw mixed (by decide +kernel) fun K hK => ?_
          | (refine Zb ?_ ?_ <;> intro hb <;> first | (simp (disch := omega) only [go_sem, zz1] at hb; done) | (simp (disch := omega) only [go_sem, zz1] at hb; try omega) | try omega)
          | (refine Zl ?_; intro bn hnil; (try simp (disch := omega) only [go_sem, zz1] at hnil); dsimp only [putT, List.set_cons_succ, List.set_cons_zero])
        all_goals exact Zrf

end Go.Proofs.Ytfbmbjfcgoahfaa
