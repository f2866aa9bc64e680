/-
  The heap: Pop, Change, New; of nil; walked.
-/
import Derived.Test.YtfbmbjfcgoahfaaF3
import Derived.Test.YtfbmbjfcgoahfaaM3
namespace Go.Proofs.Ytfbmbjfcgoahfaa
open Go Go.AM
set_option maxHeartbeats 4000000
set_option maxRecDepth 8000
set_option linter.unusedSimpArgs false
set_option linter.unusedVariables false

theorem remove_F (s : HS) (g : Good s) (id : Int) {H a m : Nat} (hd : H ≠ a ∧ H ≠ m ∧ a ≠ m) : FCall Try.prog 19 [.ptr H 1 0 0, .int .i64 id] (hobs H a m s) (.int .i64 (removeS s id).2) (hobs H a m (removeS s id).1) :=
  FCall.heap (remove0_ok s g id) hd (by simp [lfA_leaf, lf_ptr, lf_int]) (.leaf _ (.fz _ (.int _ _))) rfl rfl

theorem pop0_ok (s : HS) (g : Good s) : HCall Try.prog 17 [.ptr 0 1 0 0] (hobs 0 1 2 s) 3 (fun r h _ => r = itemV (popS s).2 ∧ h = hobs 0 1 2 (popS s).1) := by
  have c1 := peek_F s g (H := 0) (a := 1) (m := 2) (by decide)
  have c2 := remove_F s g (it s 0).iD (H := 0) (a := 1) (m := 2) (by decide)
  unfold popS
  unfold peekS at c1
  by_cases h0 : s.n = 0
  · rw [if_pos h0] at c1 ⊢
    refine HCall_intro (c := Try.f17.body.getD .skip) Try.func17 rfl (by decide +kernel) (W_start ?_)
    simp only [Try.f17, go_sem]
    repeat' first
      | refine Z0 ?_
      | refine Zx ?_
      | refine Zfc c1 ?_
      | (refine Ze ?_; clear hK K)
      | refine W_reg fun K hK => ?_
      | refine W_drwR rfl mixed (by decide +kernel) fun K hK => ?_
      | refine W_drw mixed (by decide +kernel) fun K hK => ?_
      | (refine Zb ?_ ?_ <;> intro hb <;> first | (simp (disch := omega) only [go_sem] at hb; done) | (simp (disch := omega) only [go_sem] at hb; try omega) | try omega)
      | (refine Zl ?_; intro bn hnil; (try simp (disch := omega) only [go_sem] at hnil); dsimp only [putT, List.set_cons_succ, List.set_cons_zero])
    exact Zrf
  · rw [if_neg h0] at c1 ⊢
    refine HCall_intro (c := Try.f17.body.getD .skip) Try.func17 rfl (by decide +kernel) (W_start ?_)
    simp only [Try.f17, go_sem]
    repeat' first
      | refine Z0 ?_
      | refine Zx ?_
      | refine Zfc c1 ?_
      | refine Zfc c2 ?_
      | (refine Ze ?_; clear hK K)
      | refine W_reg fun K hK => ?_
      | refine W_drwR rfl mixed (by decide +kernel) fun K hK => ?_
      | refine W_drw mixed (by decide +kernel) fun K hK => ?_
      | (refine Zb ?_ ?_ <;> intro hb <;> first | (simp (disch := omega) only [go_sem] at hb; done) | (simp (disch := omega) only [go_sem] at hb; try omega) | try omega)
      | (refine Zl ?_; intro bn hnil; (try simp (disch := omega) only [go_sem] at hnil); dsimp only [putT, List.set_cons_succ, List.set_cons_zero])
    exact Zrf

theorem change0_ok (s : HS) (v : Good s) (o : Ord s) (x : TItem) (hx : x.wf) : HCall Try.prog 37 [.ptr 0 1 0 0, .agg (Enc.enc x)] (hobs 0 1 2 s) 3 (fun r h _ => r = .int .i64 (changeS s x).2 ∧ h = hobs 0 1 2 (changeS s x).1) := by
  have c1 := get_F s v x.iD (H := 0) (a := 1) (m := 2) (by decide)
  have c2 := remove_F s v x.iD (H := 0) (a := 1) (m := 2) (by decide)
  have g2 : Good (removeS s x.iD).1 := by
    rcases remove_law v o x.iD with ⟨_, h, _⟩ | ⟨_, _, _, h, _⟩
    · rw [h]; exact v
    · exact h
  have c3 := push_F (removeS s x.iD).1 g2 x hx (H := 0) (a := 1) (m := 2) (by decide)
  unfold changeS
  unfold getS at c1
  obtain ⟨q, hq⟩ : ∃ q, mget x.iD s.m = q := ⟨_, rfl⟩
  rw [hq] at c1 ⊢
  cases q with
  | none =>
    refine HCall_intro (c := Try.f37.body.getD .skip) Try.func37 rfl (by decide +kernel) (W_start ?_)
    simp only [Try.f37, go_sem]
    repeat' first
      | refine Z0 ?_
      | refine Zx ?_
      | refine Zfc c1 ?_
      | (refine Ze ?_; clear hK K)
      | refine W_reg fun K hK => ?_
      | refine W_drwR rfl mixed (by decide +kernel) fun K hK => ?_
      | refine W_drw mixed (by decide +kernel) fun K hK => ?_
      | (refine Zb ?_ ?_ <;> intro hb <;> first | (simp (disch := omega) only [go_sem] at hb; done) | (simp (disch := omega) only [go_sem] at hb; try omega) | try omega)
      | (refine Zl ?_; intro bn hnil; (try simp (disch := omega) only [go_sem] at hnil); dsimp only [putT, List.set_cons_succ, List.set_cons_zero])
    exact Zrf
  | some w =>
    refine HCall_intro (c := Try.f37.body.getD .skip) Try.func37 rfl (by decide +kernel) (W_start ?_)
    simp only [Try.f37, go_sem]
    repeat' first
      | refine Z0 ?_
      | refine Zx ?_
      | refine Zfc c1 ?_
      | refine Zfc c2 ?_
      | refine Zfc c3 ?_
      | (refine Ze ?_; clear hK K)
      | refine W_reg fun K hK => ?_
      | refine W_drwR rfl mixed (by decide +kernel) fun K hK => ?_
      | refine W_drw mixed (by decide +kernel) fun K hK => ?_
      | (refine Zb ?_ ?_ <;> intro hb <;> first | (simp (disch := omega) only [go_sem] at hb; done) | (simp (disch := omega) only [go_sem] at hb; try omega) | try omega)
      | (refine Zl ?_; intro bn hnil; (try simp (disch := omega) only [go_sem] at hnil); dsimp only [putT, List.set_cons_succ, List.set_cons_zero])
    exact Zrf

theorem pop_F (s : HS) (g : Good s) {H a m : Nat} (hd : H ≠ a ∧ H ≠ m ∧ a ≠ m) : FCall Try.prog 17 [.ptr H 1 0 0] (hobs H a m s) (itemV (popS s).2) (hobs H a m (popS s).1) :=
  FCall.heap (pop0_ok s g) hd (by simp [lfA_leaf, lf_ptr, lf_aggE]) (lfA_tup _ _ (by simp [lf_bool, lf_aggE])) rfl rfl
theorem change_F (s : HS) (g : Good s) (o : Ord s) (x : TItem) (hx : x.wf) {H a m : Nat} (hd : H ≠ a ∧ H ≠ m ∧ a ≠ m) : FCall Try.prog 37 [.ptr H 1 0 0, .agg (Enc.enc x)] (hobs H a m s) (.int .i64 (changeS s x).2) (hobs H a m (changeS s x).1) :=
  FCall.heap (change0_ok s g o x hx) hd (by simp [lfA_leaf, lf_ptr, lf_aggE]) (.leaf _ (.fz _ (.int _ _))) (by simp [renA, ren0, num3, ren_enc]) rfl

theorem new0_ok : HCall Try.prog 14 [] [] 0 (fun r h _ => r = .ptr 3 1 0 0 ∧ h = hobs 3 5 1 newS) := by
  refine HCall_introC (c := Try.f14.body.getD .skip) Try.func14 rfl (by decide +kernel) (W_start ?_)
  simp only [Try.f14, go_sem]
  repeat' first
    | refine Z0 ?_
    | refine Zx ?_
    | (refine Ze ?_; clear hK K)
    | refine W_reg fun K hK => ?_
    | refine W_drwR rfl mixed (by decide +kernel) fun K hK => ?_
    | refine W_drw mixed (by decide +kernel) fun K hK => ?_
    | (refine Zb ?_ ?_ <;> intro hb <;> first | (simp (disch := omega) only [go_sem] at hb; done) | (simp (disch := omega) only [go_sem] at hb; try omega) | try omega)
    | (refine Zl ?_; intro bn hnil; (try simp (disch := omega) only [go_sem] at hnil); dsimp only [putT, List.set_cons_succ, List.set_cons_zero])
  refine ⟨_, Can.unbornO 3 2 2 [[.sl [] (some 0), .mapv 1]] [[.ref 5 0 0 0 false 0, .mapv 1]] rfl (by exact ⟨⟨.inr (.inr ⟨rfl, rfl⟩), .inl rfl, trivial⟩, trivial⟩) (NewL.all _) rfl rfl (Can.refl _), ?_⟩
  exact retF_of rfl rfl (by
    intro id o e
    simp only [hobs, hrow, newS, rws_nil, lk, hset] at e ⊢
    by_cases h1 : 1 = id
    · subst h1; simpa [lk] using e
    · by_cases h3 : 3 = id
      · subst h3; simpa [lk] using e
      · by_cases h5 : 5 = id
        · subst h5; simpa [lk] using e
        · simp [h1, h3, h5] at e)

theorem nil_push (x : TItem) : PCall Try.prog 15 [.nilp, .agg (Enc.enc x)] (· = .int .i64 6) := by
  refine PCall_intro (c := Try.f15.body.getD .skip) Try.func15 rfl (by decide +kernel) Zf (W_start ?_)
  simp only [Try.f15, go_sem]
  repeat' first
    | refine Z0 ?_
    | refine Zx ?_
    | (refine Ze ?_; clear hK K)
    | refine W_reg fun K hK => ?_
    | refine W_drwR rfl mixed (by decide +kernel) fun K hK => ?_
    | refine W_drw mixed (by decide +kernel) fun K hK => ?_
    | (refine Zb ?_ ?_ <;> intro hb <;> first | (simp (disch := omega) only [go_sem] at hb; done) | (simp (disch := omega) only [go_sem] at hb; try omega) | try omega)
    | (refine Zl ?_; intro bn hnil; (try simp (disch := omega) only [go_sem] at hnil); dsimp only [putT, List.set_cons_succ, List.set_cons_zero])
  exact Zr
theorem nil_peek : PCall Try.prog 41 [.nilp] (· = itemV (zItem, false)) := by
  refine PCall_intro (c := Try.f41.body.getD .skip) Try.func41 rfl (by decide +kernel) Zf (W_start ?_)
  simp only [Try.f41, go_sem]
  repeat' first
    | refine Z0 ?_
    | refine Zx ?_
    | (refine Ze ?_; clear hK K)
    | refine W_reg fun K hK => ?_
    | refine W_drwR rfl mixed (by decide +kernel) fun K hK => ?_
    | refine W_drw mixed (by decide +kernel) fun K hK => ?_
    | (refine Zb ?_ ?_ <;> intro hb <;> first | (simp (disch := omega) only [go_sem] at hb; done) | (simp (disch := omega) only [go_sem] at hb; try omega) | try omega)
    | (refine Zl ?_; intro bn hnil; (try simp (disch := omega) only [go_sem] at hnil); dsimp only [putT, List.set_cons_succ, List.set_cons_zero])
  exact Zr
theorem nil_get (id : Int) : PCall Try.prog 16 [.nilp, .int .i64 id] (· = itemV (zItem, false)) := by
  refine PCall_intro (c := Try.f16.body.getD .skip) Try.func16 rfl (by decide +kernel) Zf (W_start ?_)
  simp only [Try.f16, go_sem]
  repeat' first
    | refine Z0 ?_
    | refine Zx ?_
    | (refine Ze ?_; clear hK K)
    | refine W_reg fun K hK => ?_
    | refine W_drwR rfl mixed (by decide +kernel) fun K hK => ?_
    | refine W_drw mixed (by decide +kernel) fun K hK => ?_
    | (refine Zb ?_ ?_ <;> intro hb <;> first | (simp (disch := omega) only [go_sem] at hb; done) | (simp (disch := omega) only [go_sem] at hb; try omega) | try omega)
    | (refine Zl ?_; intro bn hnil; (try simp (disch := omega) only [go_sem] at hnil); dsimp only [putT, List.set_cons_succ, List.set_cons_zero])
  exact Zr
theorem nil_len : PCall Try.prog 18 [.nilp] (· = .int .i64 0) := by
  refine PCall_intro (c := Try.f18.body.getD .skip) Try.func18 rfl (by decide +kernel) Zf (W_start ?_)
  simp only [Try.f18, go_sem]
  repeat' first
    | refine Z0 ?_
    | refine Zx ?_
    | (refine Ze ?_; clear hK K)
    | refine W_reg fun K hK => ?_
    | refine W_drwR rfl mixed (by decide +kernel) fun K hK => ?_
    | refine W_drw mixed (by decide +kernel) fun K hK => ?_
    | (refine Zb ?_ ?_ <;> intro hb <;> first | (simp (disch := omega) only [go_sem] at hb; done) | (simp (disch := omega) only [go_sem] at hb; try omega) | try omega)
    | (refine Zl ?_; intro bn hnil; (try simp (disch := omega) only [go_sem] at hnil); dsimp only [putT, List.set_cons_succ, List.set_cons_zero])
  exact Zr
theorem nil_pop : PCall Try.prog 17 [.nilp] (· = itemV (zItem, false)) := by
  have c1 := nil_peek
  refine PCall_intro (c := Try.f17.body.getD .skip) Try.func17 rfl (by decide +kernel) Zf (W_start ?_)
  simp only [Try.f17, go_sem]
  repeat' first
    | refine Z0 ?_
    | refine Zx ?_
    | refine Zc c1 ?_
    | (refine Ze ?_; clear hK K)
    | refine W_reg fun K hK => ?_
    | refine W_drwR rfl mixed (by decide +kernel) fun K hK => ?_
    | refine W_drw mixed (by decide +kernel) fun K hK => ?_
    | (refine Zb ?_ ?_ <;> intro hb <;> first | (simp (disch := omega) only [go_sem] at hb; done) | (simp (disch := omega) only [go_sem] at hb; try omega) | try omega)
    | (refine Zl ?_; intro bn hnil; (try simp (disch := omega) only [go_sem] at hnil); dsimp only [putT, List.set_cons_succ, List.set_cons_zero])
  exact Zr
theorem nil_remove (id : Int) : PCall Try.prog 19 [.nilp, .int .i64 id] (· = .int .i64 6) := by
  have c1 := nil_get id
  refine PCall_intro (c := Try.f19.body.getD .skip) Try.func19 rfl (by decide +kernel) Zf (W_start ?_)
  simp only [Try.f19, go_sem]
  repeat' first
    | refine Z0 ?_
    | refine Zx ?_
    | refine Zc c1 ?_
    | (refine Ze ?_; clear hK K)
    | refine W_reg fun K hK => ?_
    | refine W_drwR rfl mixed (by decide +kernel) fun K hK => ?_
    | refine W_drw mixed (by decide +kernel) fun K hK => ?_
    | (refine Zb ?_ ?_ <;> intro hb <;> first | (simp (disch := omega) only [go_sem] at hb; done) | (simp (disch := omega) only [go_sem] at hb; try omega) | try omega)
    | (refine Zl ?_; intro bn hnil; (try simp (disch := omega) only [go_sem] at hnil); dsimp only [putT, List.set_cons_succ, List.set_cons_zero])
  exact Zr
theorem nil_change (x : TItem) : PCall Try.prog 37 [.nilp, .agg (Enc.enc x)] (· = .int .i64 6) := by
  have c1 := nil_get x.iD
  refine PCall_intro (c := Try.f37.body.getD .skip) Try.func37 rfl (by decide +kernel) Zf (W_start ?_)
  simp only [Try.f37, go_sem]
  repeat' first
    | refine Z0 ?_
    | refine Zx ?_
    | refine Zc c1 ?_
    | (refine Ze ?_; clear hK K)
    | refine W_reg fun K hK => ?_
    | refine W_drwR rfl mixed (by decide +kernel) fun K hK => ?_
    | refine W_drw mixed (by decide +kernel) fun K hK => ?_
    | (refine Zb ?_ ?_ <;> intro hb <;> first | (simp (disch := omega) only [go_sem] at hb; done) | (simp (disch := omega) only [go_sem] at hb; try omega) | try omega)
    | (refine Zl ?_; intro bn hnil; (try simp (disch := omega) only [go_sem] at hnil); dsimp only [putT, List.set_cons_succ, List.set_cons_zero])
  exact Zr

end Go.Proofs.Ytfbmbjfcgoahfaa
