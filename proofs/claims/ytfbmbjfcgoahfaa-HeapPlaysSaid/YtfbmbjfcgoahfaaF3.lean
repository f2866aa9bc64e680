/-
  The heap: Push, Peek, Get, Len, Remove, Pop, Change, New; walked.
-/
import Derived.Test.YtfbmbjfcgoahfaaF2
namespace Go.Proofs.Ytfbmbjfcgoahfaa
open Go Go.AM
set_option maxHeartbeats 4000000
set_option maxRecDepth 8000
set_option linter.unusedSimpArgs false
set_option linter.unusedVariables false

theorem hobs_mk (H a m : Nat) (xs : List TItem) (n l : Nat) (M : IM) (c : Nat) (hl : xs.length = l) : hobs H a m ⟨xs, n, M, c⟩ = [(m, .mp ⟨mpe M, c⟩), (a, .arr 2 (rws xs)), (H, .arr 2 [[.ref a l 0 n false l, .mapv m]])] := by
  subst hl; rfl

theorem push0_ok (s : HS) (g : Good s) (x : TItem) (hx : x.wf) :
    HCall Try.prog 15 [.ptr 0 1 0 0, .agg (Enc.enc x)] (hobs 0 1 2 s) 3 (fun r h _ => r = .int .i64 (pushS s x).2 ∧ h = hobs 0 1 2 (pushS s x).1) := by
  have hle := g.le
  have hlen := g.len
  have u1 : ((s.n + 1 : Nat) : Int) - 1 = (s.n : Int) := by omega
  have u2 : (s.n : Int) + 1 - 1 = (s.n : Int) := by omega
  obtain ⟨p, hp⟩ : ∃ p, pushS s x = p := ⟨_, rfl⟩
  rw [hp]
  unfold pushS at hp
  obtain ⟨q, hq⟩ : ∃ q, mget x.iD s.m = q := ⟨_, rfl⟩
  cases q with
  | some v =>
    rw [hq, if_pos (show (some v).isSome = true from rfl)] at hp
    subst hp
    refine HCall_intro (c := Try.f15.body.getD .skip) Try.func15 rfl (by decide +kernel) (W_start ?_)
    simp only [Try.f15, go_sem]
    have zz1 := hq
    repeat' first
      | refine Z1 ?_
      | refine Zx ?_
      | (refine Ze ?_; clear hK K)
      | refine W_reg fun K hK => ?_
      | refine W_drwR rfl mixed (by decide +kernel) fun K hK => ?_
      | refine W_drw mixed (by decide +kernel) fun K hK => ?_
      | (refine Zb ?_ ?_ <;> intro hb <;> first | (simp (disch := omega) only [go_sem, zz1] at hb; done) | (simp (disch := omega) only [go_sem, zz1] at hb; try omega) | try omega)
      | (refine Zl ?_; intro bn hnil; (try simp (disch := omega) only [go_sem, zz1] at hnil); dsimp only [putT, List.set_cons_succ, List.set_cons_zero])
    exact Zrf
  | none =>
    rw [hq, if_neg (by simp)] at hp
    by_cases hn : s.n ≥ 4096
    · rw [if_pos hn] at hp
      subst hp
      refine HCall_intro (c := Try.f15.body.getD .skip) Try.func15 rfl (by decide +kernel) (W_start ?_)
      simp only [Try.f15, go_sem]
      have zz1 := hq
      repeat' first
        | refine Z1 ?_
        | refine Zx ?_
        | (refine Ze ?_; clear hK K)
        | refine W_reg fun K hK => ?_
        | refine W_drwR rfl mixed (by decide +kernel) fun K hK => ?_
        | refine W_drw mixed (by decide +kernel) fun K hK => ?_
        | (refine Zb ?_ ?_ <;> intro hb <;> first | (simp (disch := omega) only [go_sem, zz1] at hb; done) | (simp (disch := omega) only [go_sem, zz1] at hb; try omega) | try omega)
        | (refine Zl ?_; intro bn hnil; (try simp (disch := omega) only [go_sem, zz1] at hnil); dsimp only [putT, List.set_cons_succ, List.set_cons_zero])
      exact Zrf
    · rw [if_neg hn] at hp
      subst hp
      have gg := g.grown hx hq (by omega)
      have c2 := up_F (grown s x) gg s.n (Nat.lt_succ_self _) (H := 0) (a := 1) (m := 2) (by decide)
      by_cases hb : s.n < s.xs.length
      · have e0 : hobs 0 1 2 (grown s x) = [(2, .mp ⟨mpe (mput x.iD s.n s.c s.m), s.c + 1⟩), (1, .arr 2 (rws (s.xs.set s.n x))), (0, .arr 2 [[.ref 1 s.xs.length 0 (s.n + 1) false s.xs.length, .mapv 2]])] := by
          unfold grown
          rw [if_pos hb]
          exact hobs_mk _ _ _ _ _ _ _ _ (by simp)
        rw [e0] at c2
        have r1 : List.take s.n (rws s.xs) ++ [Enc.enc x] ++ List.drop (s.n + 1) (rws s.xs) = rws (s.xs.set s.n x) := by
          rw [List.set_eq_take_append_cons_drop, if_pos hb, rws_take, rws_drop, rws_snoc, rws_append]
          simp
        simp only [enc_TItem] at r1
        refine HCall_intro (c := Try.f15.body.getD .skip) Try.func15 rfl (by decide +kernel) (W_start ?_)
        simp only [Try.f15, go_sem]
        have zz1 := hq
        have zz2 := r1
        have zz3 := u1
        have zz4 := u2
        repeat' first
          | refine Z4 ?_
          | refine Zx ?_
          | refine Zfc c2 ?_
          | (refine Ze ?_; clear hK K)
          | refine W_reg fun K hK => ?_
          | refine W_drwR rfl mixed (by decide +kernel) fun K hK => ?_
          | refine W_drw mixed (by decide +kernel) fun K hK => ?_
          | (refine Zb ?_ ?_ <;> intro hb <;> first | (simp (disch := omega) only [go_sem, zz1, zz2, zz3, zz4] at hb; done) | (simp (disch := omega) only [go_sem, zz1, zz2, zz3, zz4] at hb; try omega) | try omega)
          | (refine Zl ?_; intro bn hnil; (try simp (disch := omega) only [go_sem, zz1, zz2, zz3, zz4] at hnil); dsimp only [putT, List.set_cons_succ, List.set_cons_zero])
        exact Zrf
      · have hb : s.n = s.xs.length := by omega
        obtain ⟨xs, n, M, c⟩ := s
        simp only [] at hb
        subst hb
        have e0 : hobs 0 1 2 (grown ⟨xs, xs.length, M, c⟩ x) = [(2, .mp ⟨mpe (mput x.iD xs.length c M), c + 1⟩), (1, .arr 2 (rws (xs ++ [x]))), (0, .arr 2 [[.ref 1 (xs.length + 1) 0 (xs.length + 1) false (xs.length + 1), .mapv 2]])] := by
          unfold grown
          rw [if_neg (by simp)]
          exact hobs_mk _ _ _ _ _ _ _ _ (by simp)
        rw [e0] at c2
        simp only [] at c2 hq u1 u2 hn hlen
        have hn2 : xs.length < 4096 := by omega
        have r1 := rws_snoc xs x
        simp only [enc_TItem] at r1
        refine HCall_intro (c := Try.f15.body.getD .skip) Try.func15 rfl (by decide +kernel) (W_start ?_)
        simp only [Try.f15, go_sem]
        have zz1 := hq
        have zz2 := r1
        have zz3 := u1
        have zz4 := u2
        repeat' first
          | refine Z4 ?_
          | refine Zx ?_
          | refine Zfc c2 ?_
          | (refine Ze ?_; clear hK K)
          | refine W_reg fun K hK => ?_
          | refine W_drwR rfl mixed (by decide +kernel) fun K hK => ?_
          | refine W_drw mixed (by decide +kernel) fun K hK => ?_
          | (refine Zb ?_ ?_ <;> intro hb <;> first | (simp (disch := omega) only [go_sem, zz1, zz2, zz3, zz4] at hb; done) | (simp (disch := omega) only [go_sem, zz1, zz2, zz3, zz4] at hb; try omega) | try omega)
          | (refine Zl ?_; intro bn hnil; (try simp (disch := omega) only [go_sem, zz1, zz2, zz3, zz4] at hnil); dsimp only [putT, List.set_cons_succ, List.set_cons_zero])
        exact Zrf

theorem push_F (s : HS) (g : Good s) (x : TItem) (hx : x.wf) {H a m : Nat} (hd : H ≠ a ∧ H ≠ m ∧ a ≠ m) :
    FCall Try.prog 15 [.ptr H 1 0 0, .agg (Enc.enc x)] (hobs H a m s) (.int .i64 (pushS s x).2) (hobs H a m (pushS s x).1) :=
  FCall.heap (push0_ok s g x hx) hd (by simp [lfA_leaf, lf_ptr, lf_aggE]) (.leaf _ (.fz _ (.int _ _))) (by simp [renA, ren0, num3, ren_enc]) rfl

abbrev itemV (r : TItem × Bool) : AVal := .tuple [.agg (Enc.enc r.1), .bool r.2]

theorem peek0_ok (s : HS) (g : Good s) : HCall Try.prog 41 [.ptr 0 1 0 0] (hobs 0 1 2 s) 3 (fun r h _ => r = itemV (peekS s) ∧ h = hobs 0 1 2 s) := by
  have hle := g.le
  have hlen := g.len
  unfold peekS
  by_cases h0 : s.n = 0
  · rw [if_pos h0]
    refine HCall_intro (c := Try.f41.body.getD .skip) Try.func41 rfl (by decide +kernel) (W_start ?_)
    simp only [Try.f41, go_sem]
    repeat' first
      | refine Z0 ?_
      | refine Zx ?_
      | (refine Ze ?_; clear hK K)
      | refine W_reg fun K hK => ?_
      | refine W_drwR rfl mixed (by decide +kernel) fun K hK => ?_
      | refine W_drw mixed (by decide +kernel) fun K hK => ?_
      | (refine Zb ?_ ?_ <;> intro hb <;> first | (simp (disch := omega) only [go_sem] at hb; done) | (simp (disch := omega) only [go_sem] at hb; try omega) | try omega)
      | (refine Zl ?_; intro bn hnil; (try simp (disch := omega) only [go_sem] at hnil); dsimp only [putT, List.set_cons_succ, List.set_cons_zero])
    exact Zrf
  · rw [if_neg h0]
    have x0 := it_get (s := s) (i := 0) (by omega)
    refine HCall_intro (c := Try.f41.body.getD .skip) Try.func41 rfl (by decide +kernel) (W_start ?_)
    simp only [Try.f41, go_sem]
    have zz1 := rws_get x0
    repeat' first
      | refine Z1 ?_
      | refine Zx ?_
      | (refine Ze ?_; clear hK K)
      | refine W_reg fun K hK => ?_
      | refine W_drwR rfl mixed (by decide +kernel) fun K hK => ?_
      | refine W_drw mixed (by decide +kernel) fun K hK => ?_
      | (refine Zb ?_ ?_ <;> intro hb <;> first | (simp (disch := omega) only [go_sem, zz1] at hb; done) | (simp (disch := omega) only [go_sem, zz1] at hb; try omega) | try omega)
      | (refine Zl ?_; intro bn hnil; (try simp (disch := omega) only [go_sem, zz1] at hnil); dsimp only [putT, List.set_cons_succ, List.set_cons_zero])
    exact Zrf

theorem get0_ok (s : HS) (g : Good s) (id : Int) : HCall Try.prog 16 [.ptr 0 1 0 0, .int .i64 id] (hobs 0 1 2 s) 3 (fun r h _ => r = itemV (getS s id) ∧ h = hobs 0 1 2 s) := by
  have hle := g.le
  have hlen := g.len
  unfold getS
  obtain ⟨q, hq⟩ : ∃ q, mget id s.m = q := ⟨_, rfl⟩
  rw [hq]
  cases q with
  | none =>
    refine HCall_intro (c := Try.f16.body.getD .skip) Try.func16 rfl (by decide +kernel) (W_start ?_)
    simp only [Try.f16, go_sem]
    have zz1 := hq
    repeat' first
      | refine Z1 ?_
      | refine Zx ?_
      | (refine Ze ?_; clear hK K)
      | refine W_reg fun K hK => ?_
      | refine W_drwR rfl mixed (by decide +kernel) fun K hK => ?_
      | refine W_drw mixed (by decide +kernel) fun K hK => ?_
      | (refine Zb ?_ ?_ <;> intro hb <;> first | (simp (disch := omega) only [go_sem, zz1] at hb; done) | (simp (disch := omega) only [go_sem, zz1] at hb; try omega) | try omega)
      | (refine Zl ?_; intro bn hnil; (try simp (disch := omega) only [go_sem, zz1] at hnil); dsimp only [putT, List.set_cons_succ, List.set_cons_zero])
    exact Zrf
  | some v =>
    obtain ⟨i, hi, rfl, e, _⟩ := g.has hq
    have x0 := it_get (s := s) (i := i) (by omega)
    simp only [Int.toNat_natCast]
    refine HCall_intro (c := Try.f16.body.getD .skip) Try.func16 rfl (by decide +kernel) (W_start ?_)
    simp only [Try.f16, go_sem]
    have zz1 := hq
    have zz2 := rws_get x0
    repeat' first
      | refine Z2 ?_
      | refine Zx ?_
      | (refine Ze ?_; clear hK K)
      | refine W_reg fun K hK => ?_
      | refine W_drwR rfl mixed (by decide +kernel) fun K hK => ?_
      | refine W_drw mixed (by decide +kernel) fun K hK => ?_
      | (refine Zb ?_ ?_ <;> intro hb <;> first | (simp (disch := omega) only [go_sem, zz1, zz2] at hb; done) | (simp (disch := omega) only [go_sem, zz1, zz2] at hb; try omega) | try omega)
      | (refine Zl ?_; intro bn hnil; (try simp (disch := omega) only [go_sem, zz1, zz2] at hnil); dsimp only [putT, List.set_cons_succ, List.set_cons_zero])
    exact Zrf

theorem len0_ok (s : HS) : HCall Try.prog 18 [.ptr 0 1 0 0] (hobs 0 1 2 s) 3 (fun r h _ => r = .int .i64 s.n ∧ h = hobs 0 1 2 s) := by
  refine HCall_intro (c := Try.f18.body.getD .skip) Try.func18 rfl (by decide +kernel) (W_start ?_)
  simp only [Try.f18, go_sem]
  repeat' first
    | refine Z0 ?_
    | refine Zx ?_
    | (refine Ze ?_; clear hK K)
    | refine W_reg fun K hK => ?_
    | refine W_drwR rfl mixed (by decide +kernel) fun K hK => ?_
    | refine W_drw mixed (by decide +kernel) fun K hK => ?_
    | (refine Zb ?_ ?_ <;> intro hb <;> first | (simp (disch := omega) only [go_sem] at hb; done) | (simp (disch := omega) only [go_sem] at hb; try omega) | try omega)
    | (refine Zl ?_; intro bn hnil; (try simp (disch := omega) only [go_sem] at hnil); dsimp only [putT, List.set_cons_succ, List.set_cons_zero])
  exact Zrf

theorem peek_F (s : HS) (g : Good s) {H a m : Nat} (hd : H ≠ a ∧ H ≠ m ∧ a ≠ m) : FCall Try.prog 41 [.ptr H 1 0 0] (hobs H a m s) (itemV (peekS s)) (hobs H a m s) :=
  FCall.heap (peek0_ok s g) hd (by simp [lfA_leaf, lf_ptr, lf_aggE]) (lfA_tup _ _ (by simp [lf_bool, lf_aggE])) rfl rfl
theorem get_F (s : HS) (g : Good s) (id : Int) {H a m : Nat} (hd : H ≠ a ∧ H ≠ m ∧ a ≠ m) : FCall Try.prog 16 [.ptr H 1 0 0, .int .i64 id] (hobs H a m s) (itemV (getS s id)) (hobs H a m s) :=
  FCall.heap (get0_ok s g id) hd (by simp [lfA_leaf, lf_ptr, lf_int]) (lfA_tup _ _ (by simp [lf_bool, lf_aggE])) rfl rfl
theorem len_F (s : HS) {H a m : Nat} (hd : H ≠ a ∧ H ≠ m ∧ a ≠ m) : FCall Try.prog 18 [.ptr H 1 0 0] (hobs H a m s) (.int .i64 s.n) (hobs H a m s) :=
  FCall.heap (len0_ok s) hd (by simp [lfA_leaf, lf_ptr, lf_aggE]) (.leaf _ (.fz _ (.int _ _))) rfl rfl

theorem remove0_ok (s : HS) (g : Good s) (id : Int) : HCall Try.prog 19 [.ptr 0 1 0 0, .int .i64 id] (hobs 0 1 2 s) 3 (fun r h _ => r = .int .i64 (removeS s id).2 ∧ h = hobs 0 1 2 (removeS s id).1) := by
  have hle := g.le
  have hlen := g.len
  have c1 := get_F s g id (H := 0) (a := 1) (m := 2) (by decide)
  obtain ⟨p, hp⟩ : ∃ p, removeS s id = p := ⟨_, rfl⟩
  rw [hp]
  unfold removeS at hp
  unfold getS at c1
  obtain ⟨q, hq⟩ : ∃ q, mget id s.m = q := ⟨_, rfl⟩
  rw [hq] at hp c1
  cases q with
  | none =>
    subst hp
    refine HCall_intro (c := Try.f19.body.getD .skip) Try.func19 rfl (by decide +kernel) (W_start ?_)
    simp only [Try.f19, go_sem]
    have zz1 := hq
    repeat' first
      | refine Z1 ?_
      | refine Zx ?_
      | refine Zfc c1 ?_
      | (refine Ze ?_; clear hK K)
      | refine W_reg fun K hK => ?_
      | refine W_drwR rfl mixed (by decide +kernel) fun K hK => ?_
      | refine W_drw mixed (by decide +kernel) fun K hK => ?_
      | (refine Zb ?_ ?_ <;> intro hb <;> first | (simp (disch := omega) only [go_sem, zz1] at hb; done) | (simp (disch := omega) only [go_sem, zz1] at hb; try omega) | try omega)
      | (refine Zl ?_; intro bn hnil; (try simp (disch := omega) only [go_sem, zz1] at hnil); dsimp only [putT, List.set_cons_succ, List.set_cons_zero])
    exact Zrf
  | some v =>
    obtain ⟨i, hi, rfl, e, _⟩ := g.has hq
    simp only [Int.toNat_natCast] at hp c1
    have u1 : (s.n : Int) - 1 = (s.n - 1 : Nat) := by omega
    by_cases hb : i < s.n - 1
    · rw [if_pos hb] at hp
      subst hp
      obtain ⟨g2, _, _⟩ := shrunk_law g hi e
      have a2 := up_alike i _ g2 (show i < (shrunk s id i).n from hb)
      have c2 := swap_F s g i (s.n - 1) hi (by omega) (by omega) (H := 0) (a := 1) (m := 2) (by decide)
      have c3 := up_F (shrunk s id i) g2 i hb (H := 0) (a := 1) (m := 2) (by decide)
      have c4 := down_F (upS (shrunk s id i) i) a2.good i (by rw [a2.n]; exact hb) (H := 0) (a := 1) (m := 2) (by decide)
      rw [a2.n, show (shrunk s id i).n = s.n - 1 from rfl] at c4
      obtain ⟨s1, hs1⟩ : ∃ s1, s1 = swp s i (s.n - 1) := ⟨_, rfl⟩
      have a1 := Alike.swp g hi (show s.n - 1 < s.n by omega) (by omega)
      have e0 : shrunk s id i = ⟨s1.xs, s.n - 1, mdel id s1.m, s.c⟩ := by rw [hs1]; unfold shrunk; rw [if_neg (by omega)]
      have e1 := hobs_mk 0 1 2 s1.xs (s.n - 1) s.xs.length (mdel id s1.m) s.c (by rw [hs1]; exact a1.len)
      have e2 := hobs_mk 0 1 2 s1.xs s.n s.xs.length s1.m s.c (by rw [hs1]; exact a1.len)
      have e3 : hobs 0 1 2 (swp s i (s.n - 1)) = hobs 0 1 2 ⟨s1.xs, s.n, s1.m, s.c⟩ := by rw [hs1]; rfl
      have l1 : s1.xs.length = s.xs.length := by rw [hs1]; exact a1.len
      rw [e3, e2] at c2
      rw [e0, e1] at c3
      rw [e0] at c4 ⊢
      refine HCall_intro (c := Try.f19.body.getD .skip) Try.func19 rfl (by decide +kernel) (W_start ?_)
      simp only [Try.f19, go_sem]
      have zz1 := hq
      have zz2 := u1
      have zz3 := l1
      repeat' first
        | refine Z3 ?_
        | refine Zx ?_
        | refine Zfc c1 ?_
        | refine Zfc c2 ?_
        | refine Zfc c3 ?_
        | refine Zfc c4 ?_
        | (refine Ze ?_; clear hK K)
        | refine W_reg fun K hK => ?_
        | refine W_drwR rfl mixed (by decide +kernel) fun K hK => ?_
        | refine W_drw mixed (by decide +kernel) fun K hK => ?_
        | (refine Zb ?_ ?_ <;> intro hb <;> first | (simp (disch := omega) only [go_sem, zz1, zz2, zz3] at hb; done) | (simp (disch := omega) only [go_sem, zz1, zz2, zz3] at hb; try omega) | try omega)
        | (refine Zl ?_; intro bn hnil; (try simp (disch := omega) only [go_sem, zz1, zz2, zz3] at hnil); dsimp only [putT, List.set_cons_succ, List.set_cons_zero])
      exact Zrf
    · rw [if_neg hb] at hp
      subst hp
      obtain rfl : i = s.n - 1 := by omega
      have c2 := swapS_F s g (s.n - 1) hi (H := 0) (a := 1) (m := 2) (by decide)
      have e0 : shrunk s id (s.n - 1) = ⟨s.xs, s.n - 1, mdel id s.m, s.c⟩ := by unfold shrunk; rw [if_pos rfl]
      rw [e0]
      refine HCall_intro (c := Try.f19.body.getD .skip) Try.func19 rfl (by decide +kernel) (W_start ?_)
      simp only [Try.f19, go_sem]
      have zz1 := hq
      have zz2 := u1
      repeat' first
        | refine Z2 ?_
        | refine Zx ?_
        | refine Zfc c1 ?_
        | refine Zfc c2 ?_
        | (refine Ze ?_; clear hK K)
        | refine W_reg fun K hK => ?_
        | refine W_drwR rfl mixed (by decide +kernel) fun K hK => ?_
        | refine W_drw mixed (by decide +kernel) fun K hK => ?_
        | (refine Zb ?_ ?_ <;> intro hb <;> first | (simp (disch := omega) only [go_sem, zz1, zz2] at hb; done) | (simp (disch := omega) only [go_sem, zz1, zz2] at hb; try omega) | try omega)
        | (refine Zl ?_; intro bn hnil; (try simp (disch := omega) only [go_sem, zz1, zz2] at hnil); dsimp only [putT, List.set_cons_succ, List.set_cons_zero])
      exact Zrf

end Go.Proofs.Ytfbmbjfcgoahfaa
