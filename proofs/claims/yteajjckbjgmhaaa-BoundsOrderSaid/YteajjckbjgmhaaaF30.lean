/-
  Bounds: the laws BoundsHold, BoundsShut, BoundsOrder; walked.
-/
import Derived.Test.YteajjckbjgmhaaaM10
import Derived.Test.YteajjckbjgmhaaaAM48
namespace Go.Proofs.Yteajjckbjgmhaaa
open Go Go.AM
set_option maxHeartbeats 8000000
set_option maxRecDepth 8000
set_option linter.unusedSimpArgs false
set_option linter.unusedVariables false
attribute [local go_sem] ty3 ty4 ty9 ty22 ty26 ty33 ty34 ty38 eg38 si38 ty39 eg39 si39 ty43 eg43 si43 ty44 eg44 si44 ty51 ty56 eg56 si56 ty57 eg57 si57 ty62 ty63 eg63 si63 ty64 eg64 si64 ty69 ty77

attribute [local go_sem] enc_Lv enc_Bd size_Lv size_Bd

theorem hold_ok (total : Int) (l : List Lv) (hl : l.length ≤ 2199023255552) : PCall Try.prog 19 [.int .i64 total, .sl (rws l) none] (· = .bool true) := by
  have c0 := awake18_ok
  rcases bou_cases total l (by unfold maxLen; omega) with ⟨e, he, h⟩ | ⟨B, h, v⟩
  · have c1 := bounds_bad hl he h
    refine PCall_intro (c := Try.f19.body.getD .skip) Try.func19 rfl (by decide +kernel) Zf (W_start ?_)
    simp only [Try.f19, go_sem]
    repeat' first
      | refine Z0 ?_
      | refine Zx ?_
      | refine Zc c0 ?_
      | refine Zc c1 ?_
      | (refine Ze ?_; clear hK K)
      | refine W_reg fun K hK => ?_
      | refine W_drwR rfl mixed (by decide +kernel) fun K hK => ?_
      | refine W_drw mixed (by decide +kernel) fun K hK => ?_
      | (refine Zb ?_ ?_ <;> intro hb <;> first | (simp (disch := omega) only [go_sem] at hb; done) | (simp (disch := omega) only [go_sem] at hb; try omega) | try omega)
      | (refine Zl ?_; intro bn hnil; (try simp (disch := omega) only [go_sem] at hnil); dsimp only [putT, List.set_cons_succ, List.set_cons_zero])
    exact Zr
  · have c1 := bounds_good hl h
    have vt := v.t
    have vn := v.n
    have vl := v.len
    have row := fun i b (hb : B[i]? = some b) => v.row hb
    have mem : ∀ b, b ∈ B → 0 ≤ b.2.1 ∧ b.2.1 ≤ b.1 ∧ b.1 ≤ b.2.2 ∧ b.2.2 ≤ total := fun b hb => by
      obtain ⟨i, hi⟩ := List.getElem?_of_mem hb
      exact v.row hi
    have s1 := fun i => sum_part (f := fun b : Bd => b.1) (c := 4096) (L := B) (fun b hb => by have := mem b hb; omega) (by omega) i
    have s2 := fun i => sum_part (f := fun b : Bd => b.2.1) (c := 4096) (L := B) (fun b hb => by have := mem b hb; omega) (by omega) i
    have s3 := fun i => sum_part (f := fun b : Bd => b.2.2) (c := 4096) (L := B) (fun b hb => by have := mem b hb; omega) (by omega) i
    have t1 : (B.map fun b : Bd => b.1).sum = total := v.sum
    have t2 : (B.map fun b : Bd => b.2.1).sum ≤ total := by rw [← t1]; exact sumle_map fun b hb => (mem b hb).2.1
    have t3 : total ≤ (B.map fun b : Bd => b.2.2).sum := by rw [← t1]; exact sumle_map fun b hb => (mem b hb).2.2.1
    clear v h mem
    refine PCall_intro (c := Try.f19.body.getD .skip) Try.func19 rfl (by decide +kernel) Zf (W_start ?_)
    simp only [Try.f19, go_sem]
    repeat' first
      | refine Z0 ?_
      | refine Zx ?_
      | refine Zc c0 ?_
      | refine Zc c1 ?_
      | (refine Ze ?_; clear hK K)
      | refine W_reg fun K hK => ?_
      | refine W_drwR rfl mixed (by decide +kernel) fun K hK => ?_
      | refine W_drw mixed (by decide +kernel) fun K hK => ?_
      | (refine Zb ?_ ?_ <;> intro hb <;> first | (simp (disch := omega) only [go_sem] at hb; done) | (simp (disch := omega) only [go_sem] at hb; try omega) | try omega)
      | (refine Zl ?_; intro bn hnil; (try simp (disch := omega) only [go_sem] at hnil); dsimp only [putT, List.set_cons_succ, List.set_cons_zero])
    refine W_foldK (fun (a : Nat × Int × Int × Int) => [none, none, none, none, some .junk, none, none, some (.int .i64 a.2.1), some (.int .i64 a.2.2.1), some (.int .i64 a.2.2.2), some (.int .i64 a.1), none, none, none, none, none, none, none, none, none, none, none, none, none, some .junk, some .junk, some .junk, some .junk, some .junk, some .junk, some .junk, some .junk, some .junk, some .junk, some .junk, some .junk, some .junk, some .junk, some .junk, some .junk, some .junk, some .junk, some .junk, some .junk, some .junk, some .junk, some .junk, some .junk, some .junk, some .junk, some .junk, some .junk, some .junk, some .junk, some .junk, some .junk, some .junk, some .junk, some .junk, some .junk, some .junk, some .junk, some .junk, some .junk, some .junk, some .junk, some .junk, some .junk, some .junk, some .junk, some .junk, some .junk, some .junk, some .junk, some .junk, some .junk, some .junk, some .junk, some .junk, some .junk, some .junk, some .junk, some .junk, some .junk, some .junk, some .junk, some .junk, some .junk, some .junk, some .junk, some .junk, some .junk]) (fun a => a.1 ≤ B.length ∧ a.2.1 = ((B.take a.1).map fun b : Bd => b.1).sum ∧ a.2.2.1 = ((B.take a.1).map fun b : Bd => b.2.1).sum ∧ a.2.2.2 = ((B.take a.1).map fun b : Bd => b.2.2).sum) (fun a => B.length - a.1) (0, 0, 0, 0) ⟨by simp, by simp, by simp, by simp⟩ (by exact weak_mk wkD wkH wkN wkM (by omega)) ?_
    rintro ⟨i, x, y, z⟩ ⟨hi, hx, hy, hz⟩
    simp only [] at hi hx hy hz
    simp only [msk_none, msk_some, msk_nil]
    have s1 := s1 i
    have s2 := s2 i
    have s3 := s3 i
    rw [← hx] at s1
    rw [← hy] at s2
    rw [← hz] at s3
    rcases Nat.lt_or_ge i B.length with h4 | h4
    · obtain ⟨b, hb⟩ := Go.AM.some_of_lt h4
      have r := row i b hb
      have e1 := sum_take (f := fun b : Bd => b.1) hb
      have e2 := sum_take (f := fun b : Bd => b.2.1) hb
      have e3 := sum_take (f := fun b : Bd => b.2.2) hb
      rw [← hx] at e1
      rw [← hy] at e2
      rw [← hz] at e3
      have zz1 := rws_get hb
      repeat' first
        | refine Z1 ?_
        | refine Zx ?_
        | (refine Ze ?_; clear hK K)
        | refine W_reg fun K hK => ?_
        | refine W_drwR rfl mixed (by decide +kernel) fun K hK => ?_
        | refine W_drw mixed (by decide +kernel) fun K hK => ?_
        | (refine Zb ?_ ?_ <;> intro hb <;> first | (simp (disch := omega) only [go_sem, zz1] at hb; done) | (simp (disch := omega) only [go_sem, zz1] at hb; try omega) | try omega)
        | (refine Zl ?_; intro bn hnil; (try simp (disch := omega) only [go_sem, zz1] at hnil); dsimp only [putT, List.set_cons_succ, List.set_cons_zero])
      exact L_next ⟨(i + 1, x + b.1, y + b.2.1, z + b.2.2), by simp; omega, ⟨by simp; omega, e1.symm, e2.symm, e3.symm⟩, (by exact weak_mk wkD wkH wkN wkM (by omega))⟩
    · obtain rfl : i = B.length := by omega
      rw [List.take_length] at hx hy hz
      repeat' first
        | refine Z0 ?_
        | refine Zx ?_
        | (refine Ze ?_; clear hK K)
        | refine W_reg fun K hK => ?_
        | refine W_drwR rfl mixed (by decide +kernel) fun K hK => ?_
        | refine W_drw mixed (by decide +kernel) fun K hK => ?_
        | (refine Zb ?_ ?_ <;> intro hb <;> first | (simp (disch := omega) only [go_sem] at hb; done) | (simp (disch := omega) only [go_sem] at hb; try omega) | try omega)
        | (refine Zl ?_; intro bn hnil; (try simp (disch := omega) only [go_sem] at hnil); dsimp only [putT, List.set_cons_succ, List.set_cons_zero])
      exact Zr

theorem shut_ok (total : Int) (l : List Lv) (hl : l.length ≤ 2199023255552) : PCall Try.prog 20 [.int .i64 total, .sl (rws l) none] (· = .bool true) := by
  have c0 := awake18_ok
  rcases bou_cases total l (by unfold maxLen; omega) with ⟨e, he, h⟩ | ⟨B, h, v⟩
  · have c1 := bounds_bad hl he h
    refine PCall_intro (c := Try.f20.body.getD .skip) Try.func20 rfl (by decide +kernel) Zf (W_start ?_)
    simp only [Try.f20, go_sem]
    repeat' first
      | refine Z0 ?_
      | refine Zx ?_
      | refine Zc c0 ?_
      | refine Zc c1 ?_
      | (refine Ze ?_; clear hK K)
      | refine W_reg fun K hK => ?_
      | refine W_drwR rfl mixed (by decide +kernel) fun K hK => ?_
      | refine W_drw mixed (by decide +kernel) fun K hK => ?_
      | (refine Zb ?_ ?_ <;> intro hb <;> first | (simp (disch := omega) only [go_sem] at hb; done) | (simp (disch := omega) only [go_sem] at hb; try omega) | try omega)
      | (refine Zl ?_; intro bn hnil; (try simp (disch := omega) only [go_sem] at hnil); dsimp only [putT, List.set_cons_succ, List.set_cons_zero])
    exact Zr
  · have c1 := bounds_good hl h
    have vn := v.n
    have vl := v.len
    have row := fun i b x (hb : B[i]? = some b) (hx : l[i]? = some x) => v.shut hx hb
    clear v h
    refine PCall_intro (c := Try.f20.body.getD .skip) Try.func20 rfl (by decide +kernel) Zf (W_start ?_)
    simp only [Try.f20, go_sem]
    repeat' first
      | refine Z0 ?_
      | refine Zx ?_
      | refine Zc c0 ?_
      | refine Zc c1 ?_
      | (refine Ze ?_; clear hK K)
      | refine W_reg fun K hK => ?_
      | refine W_drwR rfl mixed (by decide +kernel) fun K hK => ?_
      | refine W_drw mixed (by decide +kernel) fun K hK => ?_
      | (refine Zb ?_ ?_ <;> intro hb <;> first | (simp (disch := omega) only [go_sem] at hb; done) | (simp (disch := omega) only [go_sem] at hb; try omega) | try omega)
      | (refine Zl ?_; intro bn hnil; (try simp (disch := omega) only [go_sem] at hnil); dsimp only [putT, List.set_cons_succ, List.set_cons_zero])
    refine W_foldK (fun (i : Nat) => [none, none, none, none, some .junk, none, none, some (.int .i64 i), none, none, none, none, none, none, none, none, none, none, none, none, none, some .junk, some .junk, some .junk, some .junk, some .junk, some .junk, some .junk, some .junk, some .junk, some .junk, some .junk, some .junk, some .junk, some .junk, some .junk, some .junk, some .junk, some .junk, some .junk, some .junk, some .junk, some .junk, some .junk, some .junk, some .junk, some .junk, some .junk, some .junk, some .junk, some .junk, some .junk, some .junk, some .junk, some .junk, some .junk, some .junk, some .junk, some .junk, some .junk, some .junk, some .junk, some .junk, some .junk, some .junk, some .junk, some .junk, some .junk, some .junk, some .junk, some .junk, some .junk, some .junk, some .junk, some .junk, some .junk, some .junk, some .junk, some .junk, some .junk, some .junk, some .junk, some .junk, some .junk, some .junk, some .junk, some .junk, some .junk, some .junk, some .junk, some .junk, some .junk, some .junk, some .junk, some .junk, some .junk, some .junk, some .junk, some .junk, some .junk, some .junk, some .junk, some .junk, some .junk, some .junk, some .junk]) (fun i => i ≤ B.length) (fun i => B.length - i) 0 (by omega) (by exact weak_mk wkD wkH wkN wkM (by omega)) ?_
    rintro i hi
    simp only [msk_none, msk_some, msk_nil]
    rcases Nat.lt_or_ge i B.length with h4 | h4
    · obtain ⟨b, hb⟩ := Go.AM.some_of_lt h4
      obtain ⟨x, hx⟩ := Go.AM.some_of_lt (l := l) (i := i) (by omega)
      have r := row i b x hb hx
      have zz1 := rws_get hb
      have zz2 := rws_get hx
      repeat' first
        | refine Z2 ?_
        | refine Zx ?_
        | (refine Ze ?_; clear hK K)
        | refine W_reg fun K hK => ?_
        | refine W_drwR rfl mixed (by decide +kernel) fun K hK => ?_
        | refine W_drw mixed (by decide +kernel) fun K hK => ?_
        | (refine Zb ?_ ?_ <;> intro hb <;> first | (simp (disch := omega) only [go_sem, zz1, zz2] at hb; done) | (simp (disch := omega) only [go_sem, zz1, zz2] at hb; try omega) | try omega)
        | (refine Zl ?_; intro bn hnil; (try simp (disch := omega) only [go_sem, zz1, zz2] at hnil); dsimp only [putT, List.set_cons_succ, List.set_cons_zero])
      all_goals first | (exfalso; omega) | skip
      all_goals exact L_next ⟨i + 1, by omega, by omega, (by exact weak_mk wkD wkH wkN wkM (by omega))⟩
    · repeat' first
        | refine Z0 ?_
        | refine Zx ?_
        | (refine Ze ?_; clear hK K)
        | refine W_reg fun K hK => ?_
        | refine W_drwR rfl mixed (by decide +kernel) fun K hK => ?_
        | refine W_drw mixed (by decide +kernel) fun K hK => ?_
        | (refine Zb ?_ ?_ <;> intro hb <;> first | (simp (disch := omega) only [go_sem] at hb; done) | (simp (disch := omega) only [go_sem] at hb; try omega) | try omega)
        | (refine Zl ?_; intro bn hnil; (try simp (disch := omega) only [go_sem] at hnil); dsimp only [putT, List.set_cons_succ, List.set_cons_zero])
      exact Zr

theorem order_ok (total : Int) (l : List Lv) (hl : l.length ≤ 2199023255552) : PCall Try.prog 21 [.int .i64 total, .sl (rws l) none] (· = .bool true) := by
  have c0 := awake18_ok
  rcases bou_cases total l (by unfold maxLen; omega) with ⟨e, he, h⟩ | ⟨B, h, v⟩
  · have c1 := bounds_bad hl he h
    refine PCall_intro (c := Try.f21.body.getD .skip) Try.func21 rfl (by decide +kernel) Zf (W_start ?_)
    simp only [Try.f21, go_sem]
    repeat' first
      | refine Z0 ?_
      | refine Zx ?_
      | refine Zc c0 ?_
      | refine Zc c1 ?_
      | (refine Ze ?_; clear hK K)
      | refine W_reg fun K hK => ?_
      | refine W_drwR rfl mixed (by decide +kernel) fun K hK => ?_
      | refine W_drw mixed (by decide +kernel) fun K hK => ?_
      | (refine Zb ?_ ?_ <;> intro hb <;> first | (simp (disch := omega) only [go_sem] at hb; done) | (simp (disch := omega) only [go_sem] at hb; try omega) | try omega)
      | (refine Zl ?_; intro bn hnil; (try simp (disch := omega) only [go_sem] at hnil); dsimp only [putT, List.set_cons_succ, List.set_cons_zero])
    exact Zr
  · have c1 := bounds_good hl h
    have vn := v.n
    have vl := v.len
    have row := fun i k x y b c (hx : l[i]? = some x) (hy : l[k]? = some y) (hb : B[i]? = some b) (hc : B[k]? = some c) (hs : y.s < x.s) => v.order hx hy hb hc hs
    clear v h
    refine PCall_intro (c := Try.f21.body.getD .skip) Try.func21 rfl (by decide +kernel) Zf (W_start ?_)
    simp only [Try.f21, go_sem]
    repeat' first
      | refine Z0 ?_
      | refine Zx ?_
      | refine Zc c0 ?_
      | refine Zc c1 ?_
      | (refine Ze ?_; clear hK K)
      | refine W_reg fun K hK => ?_
      | refine W_drwR rfl mixed (by decide +kernel) fun K hK => ?_
      | refine W_drw mixed (by decide +kernel) fun K hK => ?_
      | (refine Zb ?_ ?_ <;> intro hb <;> first | (simp (disch := omega) only [go_sem] at hb; done) | (simp (disch := omega) only [go_sem] at hb; try omega) | try omega)
      | (refine Zl ?_; intro bn hnil; (try simp (disch := omega) only [go_sem] at hnil); dsimp only [putT, List.set_cons_succ, List.set_cons_zero])
    refine W_foldK (fun (i : Nat) => [none, none, none, none, some .junk, none, none, some (.int .i64 i), some .junk, none, none, none, none, none, none, none, none, none, none, none, none, none, none, none, none, none, none, some .junk, some .junk, some .junk, some .junk, some .junk, some .junk, some .junk, some .junk, some .junk, some .junk, some .junk, some .junk, some .junk, some .junk, some .junk, some .junk, some .junk, some .junk, some .junk, some .junk, some .junk, some .junk, some .junk, some .junk, some .junk, some .junk, some .junk, some .junk, some .junk, some .junk, some .junk, some .junk, some .junk, some .junk, some .junk, some .junk, some .junk, some .junk, some .junk, some .junk, some .junk, some .junk, some .junk, some .junk, some .junk, some .junk, some .junk, some .junk, some .junk, some .junk, some .junk, some .junk, some .junk, some .junk, some .junk, some .junk, some .junk, some .junk, some .junk, some .junk, some .junk, some .junk, some .junk, some .junk, some .junk, some .junk, some .junk, some .junk, some .junk, some .junk, some .junk, some .junk, some .junk, some .junk, some .junk, some .junk, some .junk, some .junk, some .junk, some .junk, some .junk, some .junk, some .junk, some .junk, some .junk, some .junk]) (fun i => i ≤ B.length) (fun i => B.length - i) 0 (by omega) (by exact weak_mk wkD wkH wkN wkM (by omega)) ?_
    rintro i hi
    simp only [msk_none, msk_some, msk_nil]
    rcases Nat.lt_or_ge i B.length with h4 | h4
    · obtain ⟨b, hb⟩ := Go.AM.some_of_lt h4
      obtain ⟨x, hx⟩ := Go.AM.some_of_lt (l := l) (i := i) (by omega)
      repeat' first
        | refine Z0 ?_
        | refine Zx ?_
        | (refine Ze ?_; clear hK K)
        | refine W_reg fun K hK => ?_
        | refine W_drwR rfl mixed (by decide +kernel) fun K hK => ?_
        | refine W_drw mixed (by decide +kernel) fun K hK => ?_
        | (refine Zb ?_ ?_ <;> intro hb <;> first | (simp (disch := omega) only [go_sem] at hb; done) | (simp (disch := omega) only [go_sem] at hb; try omega) | try omega)
        | (refine Zl ?_; intro bn hnil; (try simp (disch := omega) only [go_sem] at hnil); dsimp only [putT, List.set_cons_succ, List.set_cons_zero])
      refine W_foldK (fun (k : Nat) => [none, none, none, none, some .junk, none, none, none, some (.int .i64 k), none, none, none, none, none, none, none, none, none, none, none, none, none, none, none, none, none, none, none, none, none, none, none, none, some .junk, some .junk, some .junk, some .junk, some .junk, some .junk, some .junk, some .junk, some .junk, some .junk, some .junk, some .junk, some .junk, some .junk, some .junk, some .junk, some .junk, some .junk, some .junk, some .junk, some .junk, some .junk, some .junk, some .junk, some .junk, some .junk, some .junk, some .junk, some .junk, some .junk, some .junk, some .junk, some .junk, some .junk, some .junk, some .junk, some .junk, some .junk, some .junk, some .junk, some .junk, some .junk, some .junk, some .junk, some .junk, some .junk, some .junk, some .junk, some .junk, some .junk, some .junk, some .junk, some .junk, some .junk, some .junk, some .junk, some .junk, some .junk, some .junk, some .junk, some .junk, some .junk, some .junk, some .junk, some .junk, some .junk, some .junk, some .junk, some .junk, some .junk, some .junk, some .junk, some .junk, some .junk, some .junk, some .junk, some .junk, some .junk, some .junk, some .junk]) (fun k => k ≤ B.length) (fun k => B.length - k) 0 (by omega) (by exact weak_mk wkD wkH wkN wkM (by omega)) ?_
      rintro k hk
      simp only [msk_none, msk_some, msk_nil]
      rcases Nat.lt_or_ge k B.length with h5 | h5
      · obtain ⟨c, hc⟩ := Go.AM.some_of_lt h5
        obtain ⟨y, hy⟩ := Go.AM.some_of_lt (l := l) (i := k) (by omega)
        rcases Int.lt_or_le y.s x.s with h6 | h6
        · have r := row i k x y b c hx hy hb hc h6
          have zz1 := rws_get hb
          have zz2 := rws_get hx
          have zz3 := rws_get hc
          have zz4 := rws_get hy
          repeat' first
            | refine Z4 ?_
            | refine Zx ?_
            | (refine Ze ?_; clear hK K)
            | refine W_reg fun K hK => ?_
            | refine W_drwR rfl mixed (by decide +kernel) fun K hK => ?_
            | refine W_drw mixed (by decide +kernel) fun K hK => ?_
            | (refine Zb ?_ ?_ <;> intro hb <;> first | (simp (disch := omega) only [go_sem, zz1, zz2, zz3, zz4] at hb; done) | (simp (disch := omega) only [go_sem, zz1, zz2, zz3, zz4] at hb; try omega) | try omega)
            | (refine Zl ?_; intro bn hnil; (try simp (disch := omega) only [go_sem, zz1, zz2, zz3, zz4] at hnil); dsimp only [putT, List.set_cons_succ, List.set_cons_zero])
          all_goals first | (exfalso; omega) | skip
          all_goals exact L_next ⟨k + 1, by omega, by omega, (by exact weak_mk wkD wkH wkN wkM (by omega))⟩
        · have zz1 := rws_get hb
          have zz2 := rws_get hx
          have zz3 := rws_get hc
          have zz4 := rws_get hy
          repeat' first
            | refine Z4 ?_
            | refine Zx ?_
            | (refine Ze ?_; clear hK K)
            | refine W_reg fun K hK => ?_
            | refine W_drwR rfl mixed (by decide +kernel) fun K hK => ?_
            | refine W_drw mixed (by decide +kernel) fun K hK => ?_
            | (refine Zb ?_ ?_ <;> intro hb <;> first | (simp (disch := omega) only [go_sem, zz1, zz2, zz3, zz4] at hb; done) | (simp (disch := omega) only [go_sem, zz1, zz2, zz3, zz4] at hb; try omega) | try omega)
            | (refine Zl ?_; intro bn hnil; (try simp (disch := omega) only [go_sem, zz1, zz2, zz3, zz4] at hnil); dsimp only [putT, List.set_cons_succ, List.set_cons_zero])
          all_goals exact L_next ⟨k + 1, by omega, by omega, (by exact weak_mk wkD wkH wkN wkM (by omega))⟩
      · repeat' first
          | refine Z0 ?_
          | refine Zx ?_
          | (refine Ze ?_; clear hK K)
          | refine W_reg fun K hK => ?_
          | refine W_drwR rfl mixed (by decide +kernel) fun K hK => ?_
          | refine W_drw mixed (by decide +kernel) fun K hK => ?_
          | (refine Zb ?_ ?_ <;> intro hb <;> first | (simp (disch := omega) only [go_sem] at hb; done) | (simp (disch := omega) only [go_sem] at hb; try omega) | try omega)
          | (refine Zl ?_; intro bn hnil; (try simp (disch := omega) only [go_sem] at hnil); dsimp only [putT, List.set_cons_succ, List.set_cons_zero])
        exact L_next ⟨i + 1, by omega, by omega, (by exact weak_mk wkD wkH wkN wkM (by omega))⟩
    · repeat' first
        | refine Z0 ?_
        | refine Zx ?_
        | (refine Ze ?_; clear hK K)
        | refine W_reg fun K hK => ?_
        | refine W_drwR rfl mixed (by decide +kernel) fun K hK => ?_
        | refine W_drw mixed (by decide +kernel) fun K hK => ?_
        | (refine Zb ?_ ?_ <;> intro hb <;> first | (simp (disch := omega) only [go_sem] at hb; done) | (simp (disch := omega) only [go_sem] at hb; try omega) | try omega)
        | (refine Zl ?_; intro bn hnil; (try simp (disch := omega) only [go_sem] at hnil); dsimp only [putT, List.set_cons_succ, List.set_cons_zero])
      exact Zr

end Go.Proofs.Yteajjckbjgmhaaa
