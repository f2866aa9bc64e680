/-
  The heap: who goes first; swap, up, down; walked.
-/
import Derived.Test.YtfbmbjfcgoahfaaM2
namespace Go.Proofs.Ytfbmbjfcgoahfaa
open Go Go.AM
set_option maxHeartbeats 4000000
set_option maxRecDepth 8000
set_option linter.unusedSimpArgs false
set_option linter.unusedVariables false

theorem first_ok (a b : TItem) : PCall Try.prog 51 [.agg (Enc.enc a), .agg (Enc.enc b)] (· = .bool (goesB a b)) := by
  unfold goesB
  refine PCall_intro (c := Try.f51.body.getD .skip) Try.func51 rfl (by decide +kernel) Zf (W_start ?_)
  simp only [Try.f51, go_sem]
  repeat' first
    | refine Z0 ?_
    | refine Zx ?_
    | (refine Ze ?_; clear hK K)
    | refine W_reg fun K hK => ?_
    | refine W_drwR rfl mixed (by decide +kernel) fun K hK => ?_
    | refine W_drw mixed (by decide +kernel) fun K hK => ?_
    | (refine Zb ?_ ?_ <;> intro hb <;> first | (simp (disch := omega) only [go_sem] at hb; done) | (simp (disch := omega) only [go_sem] at hb; try omega) | try omega)
    | (refine Zl ?_; intro bn hnil; (try simp (disch := omega) only [go_sem] at hnil); dsimp only [putT, List.set_cons_succ, List.set_cons_zero])
  all_goals try (refine retQ_bool rfl ?_; simp [goesB, *]; done)

/-- A heap's objects: its items, its map, itself. -/
abbrev hrow (a m : Nat) (s : HS) : List AVal := [.ref a s.xs.length 0 s.n false s.xs.length, .mapv m]
abbrev hobs (H a m : Nat) (s : HS) : Heap := [(m, .mp ⟨mpe s.m, s.c⟩), (a, .arr 2 (rws s.xs)), (H, .arr 2 [hrow a m s])]

theorem swap0_ok (s : HS) (g : Good s) (i k : Nat) (hi : i < s.n) (hk : k < s.n) (hne : i ≠ k) :
    HCall Try.prog 43 [.ptr 0 1 0 0, .int .i64 i, .int .i64 k] (hobs 0 1 2 s) 3 (fun r h _ => r = .tuple [] ∧ h = hobs 0 1 2 (swp s i k)) := by
  have hle := g.le
  have hlen := g.len
  have hx := it_get (s := s) (i := i) (by omega)
  have hy := it_get (s := s) (i := k) (by omega)
  have m2 := g.at1 i hi
  have m1 := g.at1 k hk
  have hid : (it s i).iD ≠ (it s k).iD := fun e => hne (g.inj hi hk e)
  have e0 : hobs 0 1 2 (swp s i k) = [(2, .mp ⟨mpe (mput (it s i).iD k s.c (mput (it s k).iD i s.c s.m)), s.c⟩), (1, .arr 2 (rws (swapL s.xs i k (it s i) (it s k)))), (0, .arr 2 [[.ref 1 s.xs.length 0 s.n false s.xs.length, .mapv 2]])] := by
    have : (swapL s.xs i k (it s i) (it s k)).length = s.xs.length := by simp [swapL]
    simp only [hobs, hrow, swp, this]
  rw [e0]
  have hnd := g.nd
  obtain ⟨xs, n, M, c⟩ := s
  generalize it ⟨xs, n, M, c⟩ i = x at *
  generalize it ⟨xs, n, M, c⟩ k = y at *
  simp only [] at *
  have e1 : (rws xs).set i (Enc.enc y) = rws (xs.set i y) := rws_set _ _ _
  have e2 : (rws (xs.set i y)).set k (Enc.enc x) = rws (swapL xs i k x y) := rws_set _ _ _
  have g1 : (swapL xs i k x y)[i]? = some y := by
    unfold swapL
    rw [List.getElem?_set_ne (by omega), List.getElem?_set_self (by omega)]
  have g2 : (swapL xs i k x y)[k]? = some x := by
    unfold swapL
    rw [List.getElem?_set_self (by simp; omega)]
  have g3 : (xs.set i y)[k]? = some y := by rw [List.getElem?_set_ne hne, hy]
  have l1 : (xs.set i y).length = xs.length := by simp
  have l2 : (swapL xs i k x y).length = xs.length := by simp [swapL]
  have s1 := mput_same (n := c) m1
  have s2 := mstamp_put (n := c) (x := (i : Int)) hnd m1
  have s3 : mget x.iD (mput y.iD i c M) = some (i : Int) := by rw [mget_put, if_neg hid, m2]
  have s4 := mput_same (n := c) s3
  have s5 := mstamp_put (n := c) (x := (k : Int)) (by rw [births_put m1]; exact hnd) s3
  simp only [enc_TItem] at e1 e2
  refine HCall_intro (c := Try.f43.body.getD .skip) Try.func43 rfl (by decide +kernel) (W_start ?_)
  simp only [Try.f43, go_sem]
  have zz1 := rws_get hx
  have zz2 := rws_get hy
  have zz3 := e1
  have zz4 := e2
  have zz5 := rws_get g1
  have zz6 := rws_get g2
  have zz7 := rws_get g3
  have zz8 := l2
  have zz9 := m1
  have zz10 := s1
  have zz11 := s2
  have zz12 := s3
  have zz13 := s4
  have zz14 := s5
  repeat' first
    | refine Z14 ?_
    | refine Zx ?_
    | (refine Ze ?_; clear hK K)
    | refine W_reg fun K hK => ?_
    | refine W_drwR rfl mixed (by decide +kernel) fun K hK => ?_
    | refine W_drw mixed (by decide +kernel) fun K hK => ?_
    | (refine Zb ?_ ?_ <;> intro hb <;> first | (simp (disch := omega) only [go_sem, zz1, zz2, zz3, zz4, zz5, zz6, zz7, zz8, zz9, zz10, zz11, zz12, zz13, zz14] at hb; done) | (simp (disch := omega) only [go_sem, zz1, zz2, zz3, zz4, zz5, zz6, zz7, zz8, zz9, zz10, zz11, zz12, zz13, zz14] at hb; try omega) | try omega)
    | (refine Zl ?_; intro bn hnil; (try simp (disch := omega) only [go_sem, zz1, zz2, zz3, zz4, zz5, zz6, zz7, zz8, zz9, zz10, zz11, zz12, zz13, zz14] at hnil); dsimp only [putT, List.set_cons_succ, List.set_cons_zero])
  exact Zrf

theorem swapL_same {l : List TItem} {i : Nat} {x : TItem} (h : l[i]? = some x) : (l.set i x).set i x = l := by
  apply List.ext_getElem?
  intro j
  rw [List.set_set, List.getElem?_set]
  split
  · rename_i e
    subst e
    rw [h]
    split
    · rfl
    · rename_i h2
      rw [List.getElem?_eq_none (by omega)] at h
      cases h
  · rfl

theorem swap1_ok (s : HS) (g : Good s) (i : Nat) (hi : i < s.n) :
    HCall Try.prog 43 [.ptr 0 1 0 0, .int .i64 i, .int .i64 i] (hobs 0 1 2 s) 3 (fun r h _ => r = .tuple [] ∧ h = hobs 0 1 2 s) := by
  have hle := g.le
  have hlen := g.len
  have hx := it_get (s := s) (i := i) (by omega)
  have m2 := g.at1 i hi
  have hnd := g.nd
  obtain ⟨xs, n, M, c⟩ := s
  generalize it ⟨xs, n, M, c⟩ i = x at *
  simp only [] at *
  have e1 : (rws xs).set i (Enc.enc x) = rws xs := by
    have := swapL_same hx
    rw [List.set_set] at this
    rw [rws_set, this]
  have s1 := mput_same (n := c) m2
  have s2 := mstamp_put (n := c) (x := (i : Int)) hnd m2
  simp only [enc_TItem] at e1
  rw [s1] at s2
  refine HCall_intro (c := Try.f43.body.getD .skip) Try.func43 rfl (by decide +kernel) (W_start ?_)
  simp only [Try.f43, go_sem]
  have zz1 := rws_get hx
  have zz2 := e1
  have zz3 := m2
  have zz4 := s1
  have zz5 := s2
  repeat' first
    | refine Z5 ?_
    | refine Zx ?_
    | (refine Ze ?_; clear hK K)
    | refine W_reg fun K hK => ?_
    | refine W_drwR rfl mixed (by decide +kernel) fun K hK => ?_
    | refine W_drw mixed (by decide +kernel) fun K hK => ?_
    | (refine Zb ?_ ?_ <;> intro hb <;> first | (simp (disch := omega) only [go_sem, zz1, zz2, zz3, zz4, zz5] at hb; done) | (simp (disch := omega) only [go_sem, zz1, zz2, zz3, zz4, zz5] at hb; try omega) | try omega)
    | (refine Zl ?_; intro bn hnil; (try simp (disch := omega) only [go_sem, zz1, zz2, zz3, zz4, zz5] at hnil); dsimp only [putT, List.set_cons_succ, List.set_cons_zero])
  exact Zrf

end Go.Proofs.Ytfbmbjfcgoahfaa
