/-
  Lanes that take turns: the reference's join, take, drop, shape, shut, counts, equality; walked.
-/
import Derived.Test.YtdgjelfeclgolaaF12
namespace Go.Proofs.Ytdgjelfeclgolaa
open Go Go.AM
set_option maxHeartbeats 4000000
set_option linter.unusedSimpArgs false
set_option linter.unusedVariables false

theorem rfjoin_ok (f : TFair) (hand : List Int) (t : TTicket) (hf : okF 1000 1000 f) (hh : hand.length ≤ maxLen) : PCall Try.prog 51 [.agg (Enc.enc f), .sl (rws hand) none, .agg (Enc.enc t)] (· = joinV (fjoin f hand t)) := by
  have c1 := rchoose_ok f hand hf hh
  have c2 := fcopy_ok f hf
  have hn := hf.1
  refine PCall_intro (c := Try.f51.body.getD .skip) Try.func51 rfl (by decide +kernel) Zf (W_start ?_)
  simp only [Try.f51, go_sem]
  rcases choose_cases f hand with h1 | ⟨h1, h2, h3⟩
  · have e1 : fjoin f hand t = (zeroF, 0, 6) := by rw [fjoin, if_pos (by omega)]
    rw [e1]
    rw [h1] at c1
    repeat' first
      | refine Z0 ?_
      | refine Zx ?_
      | refine Zc c1 ?_
      | (refine Ze ?_; clear hK K)
      | refine W_reg fun K hK => ?_
      | refine W_drwR rfl mixed (by decide +kernel) fun K hK => ?_
      | refine W_drw mixed (by decide +kernel) fun K hK => ?_
      | (refine Zb ?_ ?_ <;> intro hb <;> first | (simp (disch := omega) only [go_sem] at hb; done) | (simp (disch := omega) only [go_sem] at hb; try omega) | try omega)
      | (refine Zl ?_; intro bn hnil; (try simp (disch := omega) only [go_sem] at hnil); dsimp only [putT, List.set_cons_succ, List.set_cons_zero])
    exact Zr
  · have hx := laneAt_get h1 h3
    have h5 := hf.2 _ (List.mem_of_getElem? hx)
    generalize hk : choose f hand = k at *
    obtain ⟨k, rfl⟩ : ∃ n : Nat, k = n := ⟨k.toNat, by omega⟩
    rw [Int.toNat_natCast] at hx
    generalize hl : laneAt f (k : Int) = l at *
    by_cases h6 : f.length ≤ l.wait.length
    · have e1 : fjoin f hand t = (zeroF, 0, 7) := by rw [fjoin, hk, if_neg (by omega), hl, if_pos h6]
      rw [e1]
      have zz1 := rws_get hx
      repeat' first
        | refine Z1 ?_
        | refine Zx ?_
        | refine Zc c1 ?_
        | (refine Ze ?_; clear hK K)
        | refine W_reg fun K hK => ?_
        | refine W_drwR rfl mixed (by decide +kernel) fun K hK => ?_
        | refine W_drw mixed (by decide +kernel) fun K hK => ?_
        | (refine Zb ?_ ?_ <;> intro hb <;> first | (simp (disch := omega) only [go_sem, zz1] at hb; done) | (simp (disch := omega) only [go_sem, zz1] at hb; try omega) | try omega)
        | (refine Zl ?_; intro bn hnil; (try simp (disch := omega) only [go_sem, zz1] at hnil); dsimp only [putT, List.set_cons_succ, List.set_cons_zero])
      exact Zr
    · have e1 : fjoin f hand t = (⟨f.r, f.guess, f.length, f.open_, f.lanes.set k (join l f.r t)⟩, (k : Int), 0) := by rw [fjoin, hk, if_neg (by omega), hl, if_neg h6, Int.toNat_natCast]
      rw [e1]
      have c3 := rjoin_ok l f.r t (by omega)
      have e2 := set_row f.lanes k (join l f.r t)
      generalize join l f.r t = J at *
      have zz1 := rws_get hx
      have zz2 := e2
      repeat' first
        | refine Z2 ?_
        | refine Zx ?_
        | refine Zc c1 ?_
        | refine Zw c2 ?_
        | refine Zc c3 ?_
        | (refine Ze ?_; clear hK K)
        | refine W_reg fun K hK => ?_
        | refine W_drwR rfl mixed (by decide +kernel) fun K hK => ?_
        | refine W_drw mixed (by decide +kernel) fun K hK => ?_
        | (refine Zb ?_ ?_ <;> intro hb <;> first | (simp (disch := omega) only [go_sem, zz1, zz2] at hb; done) | (simp (disch := omega) only [go_sem, zz1, zz2] at hb; try omega) | try omega)
        | (refine Zl ?_; intro bn hnil; (try simp (disch := omega) only [go_sem, zz1, zz2] at hnil); dsimp only [putT, List.set_cons_succ, List.set_cons_zero])
      exact Zr

theorem rftake_ok (f : TFair) (hf : okF 1000 1000 f) : PCall Try.prog 52 [.agg (Enc.enc f)] (· = fairV (ftake f)) := by
  have c1 := fcopy_ok f hf
  have c2 := rnext_ok f hf
  have hn := hf.1
  refine PCall_intro (c := Try.f52.body.getD .skip) Try.func52 rfl (by decide +kernel) Zf (W_start ?_)
  simp only [Try.f52, go_sem]
  rcases next_cases f with ⟨h1, _⟩ | ⟨k, l, t, w, h1, hx, h3, h4, _⟩
  · have e1 : ftake f = (f, zeroT, false) := by rw [ftake, if_pos (by omega)]
    rw [e1]
    rw [h1, show max (-1 : Int) 0 = 0 by rfl, show decide ((0 : Int) ≤ -1) = false by rfl] at c2
    repeat' first
      | refine Z0 ?_
      | refine Zx ?_
      | refine Zw c1 ?_
      | refine Zc c2 ?_
      | (refine Ze ?_; clear hK K)
      | refine W_reg fun K hK => ?_
      | refine W_drwR rfl mixed (by decide +kernel) fun K hK => ?_
      | refine W_drw mixed (by decide +kernel) fun K hK => ?_
      | (refine Zb ?_ ?_ <;> intro hb <;> first | (simp (disch := omega) only [go_sem] at hb; done) | (simp (disch := omega) only [go_sem] at hb; try omega) | try omega)
      | (refine Zl ?_; intro bn hnil; (try simp (disch := omega) only [go_sem] at hnil); dsimp only [putT, List.set_cons_succ, List.set_cons_zero])
    exact Zr
  · rw [h1, show max (k : Int) 0 = k by omega, show decide ((0 : Int) ≤ k) = true by simp] at c2
    have h5 := hf.2 _ (List.mem_of_getElem? hx)
    have hk := (List.getElem?_eq_some_iff.1 hx).1
    have c3 := rtake_ok l f.guess h5.1 (by omega)
    have b1 := take_len2 l f.guess h5.1
    have e2 : take l f.guess = (⟨add l.start (work t f.guess), w⟩, t, true) := by rw [take, h3]
    have e1 : ftake f = (ftrim ⟨max f.r (take l f.guess).1.start, f.guess, f.length, f.open_, f.lanes.set k (take l f.guess).1⟩, (take l f.guess).2.1, true) := by rw [ftake, h1, if_neg (by omega), h4, Int.toNat_natCast]
    rw [e2] at c3 e1 b1
    simp only [laneV] at c3
    rw [e1]
    generalize (⟨add l.start (work t f.guess), w⟩ : TLane) = A at *
    dsimp only at b1
    have e3 := set_row f.lanes k A
    by_cases h6 : A.start > f.r
    · have c4 := rtrim_ok _ (hf.set k A b1.2 (by omega) A.start f.guess f.length f.open_)
      rw [show max f.r A.start = A.start by omega]
      try dsimp only at c4 ⊢
      have zz1 := rws_get hx
      have zz2 := e3
      repeat' first
        | refine Z2 ?_
        | refine Zx ?_
        | refine Zw c1 ?_
        | refine Zc c2 ?_
        | refine Zc c3 ?_
        | (refine Ze ?_; clear hK K)
        | refine W_regNe 9 (by decide) fun K hK => ?_
        | refine W_drwRNe 9 (by decide) rfl mixed (by decide +kernel) fun K hK => ?_
        | refine W_drwNe 9 (by decide) mixed (by decide +kernel) fun K hK => ?_
        | (refine Zb ?_ ?_ <;> intro hb <;> first | (simp (disch := omega) only [go_sem, zz1, zz2] at hb; done) | (simp (disch := omega) only [go_sem, zz1, zz2] at hb; try omega) | try omega)
        | (refine Zl ?_; intro bn hnil; (try simp (disch := omega) only [go_sem, zz1, zz2] at hnil); dsimp only [putT, List.set_cons_succ, List.set_cons_zero])
      (apply W_frzT 35 (f.lanes.set k A); (case ht => exact rfl); (case hl => simp only [go_sem]; exact rfl); (case e => first | rfl | (simp; done) | (simp [rws, Enc.enc]; done)); (case hn => first | rfl | simp); (case e1 => exact subT); (case e2 => exact subU))
      repeat' first
        | refine Z0 ?_
        | refine Zx ?_
        | refine Zc c4 ?_
        | (refine Ze ?_; clear hK K)
        | refine W_reg fun K hK => ?_
        | refine W_drwR rfl mixed (by decide +kernel) fun K hK => ?_
        | refine W_drw mixed (by decide +kernel) fun K hK => ?_
        | (refine Zb ?_ ?_ <;> intro hb <;> first | (simp (disch := omega) only [go_sem] at hb; done) | (simp (disch := omega) only [go_sem] at hb; try omega) | try omega)
        | (refine Zl ?_; intro bn hnil; (try simp (disch := omega) only [go_sem] at hnil); dsimp only [putT, List.set_cons_succ, List.set_cons_zero])
      exact Zr
    · have c4 := rtrim_ok _ (hf.set k A b1.2 (by omega) f.r f.guess f.length f.open_)
      rw [show max f.r A.start = f.r by omega]
      try dsimp only at c4 ⊢
      have zz1 := rws_get hx
      have zz2 := e3
      repeat' first
        | refine Z2 ?_
        | refine Zx ?_
        | refine Zw c1 ?_
        | refine Zc c2 ?_
        | refine Zc c3 ?_
        | (refine Ze ?_; clear hK K)
        | refine W_regNe 9 (by decide) fun K hK => ?_
        | refine W_drwRNe 9 (by decide) rfl mixed (by decide +kernel) fun K hK => ?_
        | refine W_drwNe 9 (by decide) mixed (by decide +kernel) fun K hK => ?_
        | (refine Zb ?_ ?_ <;> intro hb <;> first | (simp (disch := omega) only [go_sem, zz1, zz2] at hb; done) | (simp (disch := omega) only [go_sem, zz1, zz2] at hb; try omega) | try omega)
        | (refine Zl ?_; intro bn hnil; (try simp (disch := omega) only [go_sem, zz1, zz2] at hnil); dsimp only [putT, List.set_cons_succ, List.set_cons_zero])
      (apply W_frzT 35 (f.lanes.set k A); (case ht => exact rfl); (case hl => simp only [go_sem]; exact rfl); (case e => first | rfl | (simp; done) | (simp [rws, Enc.enc]; done)); (case hn => first | rfl | simp); (case e1 => exact subT); (case e2 => exact subU))
      repeat' first
        | refine Z0 ?_
        | refine Zx ?_
        | refine Zc c4 ?_
        | (refine Ze ?_; clear hK K)
        | refine W_reg fun K hK => ?_
        | refine W_drwR rfl mixed (by decide +kernel) fun K hK => ?_
        | refine W_drw mixed (by decide +kernel) fun K hK => ?_
        | (refine Zb ?_ ?_ <;> intro hb <;> first | (simp (disch := omega) only [go_sem] at hb; done) | (simp (disch := omega) only [go_sem] at hb; try omega) | try omega)
        | (refine Zl ?_; intro bn hnil; (try simp (disch := omega) only [go_sem] at hnil); dsimp only [putT, List.set_cons_succ, List.set_cons_zero])
      exact Zr

theorem rfdrop_ok (f : TFair) (id : Int) (hf : okF 1000 1000 f) : PCall Try.prog 54 [.agg (Enc.enc f), .int .i64 id] (· = fairV (fdrop f id)) := by
  have c1 := fcopy_ok f hf
  have hn := hf.1
  refine PCall_intro (c := Try.f54.body.getD .skip) Try.func54 rfl (by decide +kernel) Zf (W_start ?_)
  simp only [Try.f54, go_sem]
  repeat' first
    | refine Z0 ?_
    | refine Zx ?_
    | (refine Ze ?_; clear hK K)
    | refine W_reg fun K hK => ?_
    | refine W_drwR rfl mixed (by decide +kernel) fun K hK => ?_
    | refine W_drw mixed (by decide +kernel) fun K hK => ?_
    | (refine Zb ?_ ?_ <;> intro hb <;> first | (simp (disch := omega) only [go_sem] at hb; done) | (simp (disch := omega) only [go_sem] at hb; try omega) | try omega)
    | (refine Zl ?_; intro bn hnil; (try simp (disch := omega) only [go_sem] at hnil); dsimp only [putT, List.set_cons_succ, List.set_cons_zero])
  refine W_foldK (fun (i : Nat) => [none, none, none, none, none, none, some .junk, some (.int .i64 i), some .junk, some .junk, some .junk, some .junk, some .junk, some .junk, some .junk, some .junk, some .junk, some .junk, some .junk, some .junk, some .junk, some .junk, some .junk, some .junk, some .junk, some .junk, some .junk, some .junk, some .junk, some .junk, some .junk, some .junk, some .junk, some .junk, some .junk, some .junk, some .junk, some .junk, some .junk, some .junk, some .junk]) (fun i => i ≤ f.lanes.length ∧ ∀ k l, k < i → f.lanes[k]? = some l → (drop l id).2.2 = false) (fun i => f.lanes.length - i) 0 ⟨by omega, by omega⟩ (by exact weak_mk wkD wkH wkN wkM (by omega)) ?_
  rintro i ⟨hi, hno⟩
  simp only [msk_none, msk_some, msk_nil]
  rcases Nat.lt_or_ge i f.lanes.length with h4 | h4
  · obtain ⟨l, hx⟩ := some_of_lt h4
    have h5 := hf.2 _ (List.mem_of_getElem? hx)
    have c2 := rdrop_ok l id (by omega)
    have b1 := drop_len2 l id h5.1
    have e1 : (drop l id).2.2 = true → fdrop f id = (ftrim ⟨f.r, f.guess, f.length, f.open_, f.lanes.set i (drop l id).1⟩, (drop l id).2.1, true) := fun h => by
      have e0 : dropAt f id = i := idx_at hx h hno
      rw [fdrop, e0, if_pos (by omega), laneAt_nat hx, Int.toNat_natCast]
    have e2 : (drop l id).2.2 = false → ∀ k l, k < i + 1 → f.lanes[k]? = some l → (drop l id).2.2 = false := fun h => no_step hx h hno
    simp only [laneV] at c2
    generalize drop l id = D at *
    obtain ⟨A, x, ok⟩ := D
    dsimp only at c2 e1 e2 b1
    cases ok with
    | false =>
      have zz1 := rws_get hx
      repeat' first
        | refine Z1 ?_
        | refine Zx ?_
        | refine Zc c2 ?_
        | (refine Ze ?_; clear hK K)
        | refine W_reg fun K hK => ?_
        | refine W_drwR rfl mixed (by decide +kernel) fun K hK => ?_
        | refine W_drw mixed (by decide +kernel) fun K hK => ?_
        | (refine Zb ?_ ?_ <;> intro hb <;> first | (simp (disch := omega) only [go_sem, zz1] at hb; done) | (simp (disch := omega) only [go_sem, zz1] at hb; try omega) | try omega)
        | (refine Zl ?_; intro bn hnil; (try simp (disch := omega) only [go_sem, zz1] at hnil); dsimp only [putT, List.set_cons_succ, List.set_cons_zero])
      exact L_next ⟨i + 1, by omega, ⟨by omega, e2 rfl⟩, (by exact weak_mk wkD wkH wkN wkM (by omega))⟩
    | true =>
      rw [e1 rfl]
      have c4 := rtrim_ok _ (hf.set i A b1.2 (by omega) f.r f.guess f.length f.open_)
      have e3 := set_row f.lanes i A
      try dsimp only at c4 ⊢
      have zz1 := rws_get hx
      have zz2 := e3
      repeat' first
        | refine Z2 ?_
        | refine Zx ?_
        | refine Zc c2 ?_
        | refine Zw c1 ?_
        | (refine Ze ?_; clear hK K)
        | refine W_regNe 8 (by decide) fun K hK => ?_
        | refine W_drwRNe 8 (by decide) rfl mixed (by decide +kernel) fun K hK => ?_
        | refine W_drwNe 8 (by decide) mixed (by decide +kernel) fun K hK => ?_
        | (refine Zb ?_ ?_ <;> intro hb <;> first | (simp (disch := omega) only [go_sem, zz1, zz2] at hb; done) | (simp (disch := omega) only [go_sem, zz1, zz2] at hb; try omega) | try omega)
        | (refine Zl ?_; intro bn hnil; (try simp (disch := omega) only [go_sem, zz1, zz2] at hnil); dsimp only [putT, List.set_cons_succ, List.set_cons_zero])
      (apply W_frzT 34 (f.lanes.set i A); (case ht => exact rfl); (case hl => simp only [go_sem]; exact rfl); (case e => first | rfl | (simp; done) | (simp [rws, Enc.enc]; done)); (case hn => first | rfl | simp); (case e1 => exact subT); (case e2 => exact subU))
      repeat' first
        | refine Z0 ?_
        | refine Zx ?_
        | refine Zc c4 ?_
        | (refine Ze ?_; clear hK K)
        | refine W_reg fun K hK => ?_
        | refine W_drwR rfl mixed (by decide +kernel) fun K hK => ?_
        | refine W_drw mixed (by decide +kernel) fun K hK => ?_
        | (refine Zb ?_ ?_ <;> intro hb <;> first | (simp (disch := omega) only [go_sem] at hb; done) | (simp (disch := omega) only [go_sem] at hb; try omega) | try omega)
        | (refine Zl ?_; intro bn hnil; (try simp (disch := omega) only [go_sem] at hnil); dsimp only [putT, List.set_cons_succ, List.set_cons_zero])
      exact Zr
  · obtain rfl : i = f.lanes.length := by omega
    have e0 : dropAt f id = -1 := idx_none hno
    have e1 : fdrop f id = (f, zeroT, false) := by rw [fdrop, e0, if_neg (by omega)]
    rw [e1]
    repeat' first
      | refine Z0 ?_
      | refine Zx ?_
      | (refine Ze ?_; clear hK K)
      | refine W_reg fun K hK => ?_
      | refine W_drwR rfl mixed (by decide +kernel) fun K hK => ?_
      | refine W_drw mixed (by decide +kernel) fun K hK => ?_
      | (refine Zb ?_ ?_ <;> intro hb <;> first | (simp (disch := omega) only [go_sem] at hb; done) | (simp (disch := omega) only [go_sem] at hb; try omega) | try omega)
      | (refine Zl ?_; intro bn hnil; (try simp (disch := omega) only [go_sem] at hnil); dsimp only [putT, List.set_cons_succ, List.set_cons_zero])
    exact Zr

theorem rshape_ok (f : TFair) (o g n : Int) (hf : okF 1000 1000 f) : PCall Try.prog 56 [.agg (Enc.enc f), .int .i64 o, .int .i64 g, .int .i64 n] (· = shapeV (shape f o g n)) := by
  have c1 := wrong_ok o g n
  have c2 := fcopy_ok f hf
  rw [rws_raw] at c2
  have hn := hf.1
  refine PCall_intro (c := Try.f56.body.getD .skip) Try.func56 rfl (by decide +kernel) Zf (W_start ?_)
  simp only [Try.f56, go_sem]
  by_cases hm : mayB o g n = true
  · have e1 : shape f o g n = (ftrim ⟨f.r, g, n, o, grow f.lanes o⟩, 0) := by rw [shape, if_pos hm]
    rw [e1]
    rw [hm] at c1
    have ho := (mayB_iff o g n).1 hm
    have c3 := rtrim_ok _ (hf.grow o (by omega) (by omega) f.r g n o)
    have e2 := grow_len f.lanes o
    repeat' first
      | refine Z0 ?_
      | refine Zx ?_
      | refine Zc c1 ?_
      | refine Zw c2 ?_
      | (refine Ze ?_; clear hK K)
      | refine W_reg fun K hK => ?_
      | refine W_drwR rfl mixed (by decide +kernel) fun K hK => ?_
      | refine W_drw mixed (by decide +kernel) fun K hK => ?_
      | (refine Zb ?_ ?_ <;> intro hb <;> first | (simp (disch := omega) only [go_sem] at hb; done) | (simp (disch := omega) only [go_sem] at hb; try omega) | try omega)
      | (refine Zl ?_; intro bn hnil; (try simp (disch := omega) only [go_sem] at hnil); dsimp only [putT, List.set_cons_succ, List.set_cons_zero])
    refine W_foldM (fun (a : Nat) => [none, none, none, none, none, none, none, none, none, none, none, none, none, none, none, none, none, none, some .junk, some .junk, some .junk, some .junk, some .junk, some .junk, some .junk, some .junk, some .junk, some .junk, some .junk]) (fun a => [(9, .arr 5 [[.int .u64 f.r, .int .i64 f.guess, .int .i64 f.length, .int .i64 f.open_, .ref 8 a 0 a false a]]), (8, .arr 2 (rws (raw f.lanes ++ List.replicate (a - f.lanes.length) zeroR))), (1, .arr 5 [[.int .u64 0, .int .i64 0, .int .i64 0, .int .i64 0, .sl [] (some 0)]]), (0, .arr 5 [[.int .u64 f.r, .int .i64 f.guess, .int .i64 f.length, .int .i64 f.open_, .sl (rws f.lanes) none]])])
      (fun a => f.lanes.length ≤ a ∧ a ≤ 1000 ∧ (a = f.lanes.length ∨ a ≤ o)) (fun a => 1000 - a) f.lanes.length ⟨by simp, by simpa using hn, by simp⟩ (by exact weak_mk wkD wkH wkN wkM (by omega)) ?_
    rintro m ⟨h1, h2, h3⟩
    simp only [msk_none, msk_some, msk_nil]
    have h4 : (raw f.lanes ++ List.replicate (m - f.lanes.length) zeroR).length = m := by simp [raw_len]; omega
    rcases Int.lt_or_le m o with h6 | h6
    · have e3 : rws (raw f.lanes ++ List.replicate (m - f.lanes.length) zeroR) ++ [[.int .u64 0, .sl [] (some 0)]] = rws (raw f.lanes ++ List.replicate (m + 1 - f.lanes.length) zeroR) := by
        rw [show m + 1 - f.lanes.length = m - f.lanes.length + 1 by omega, List.replicate_succ', ← List.append_assoc, ← rws_snoc]
        rfl
      have zz1 := h4
      have zz2 := e3
      repeat' first
        | refine Z2 ?_
        | refine Zx ?_
        | (refine Ze ?_; clear hK K)
        | refine W_reg fun K hK => ?_
        | refine W_drwR rfl mixed (by decide +kernel) fun K hK => ?_
        | refine W_drw mixed (by decide +kernel) fun K hK => ?_
        | (refine Zb ?_ ?_ <;> intro hb <;> first | (simp (disch := omega) only [go_sem, zz1, zz2] at hb; done) | (simp (disch := omega) only [go_sem, zz1, zz2] at hb; try omega) | try omega)
        | (refine Zl ?_; intro bn hnil; (try simp (disch := omega) only [go_sem, zz1, zz2] at hnil); dsimp only [putT, List.set_cons_succ, List.set_cons_zero])
      exact L_next ⟨m + 1, by omega, ⟨by omega, by omega, by omega⟩, (by exact weak_mk wkD wkH wkN wkM (by omega))⟩
    · have zz1 := h4
      repeat' first
        | refine Z1 ?_
        | refine Zx ?_
        | (refine Ze ?_; clear hK K)
        | refine W_regNe 6 (by decide) fun K hK => ?_
        | refine W_drwRNe 6 (by decide) rfl mixed (by decide +kernel) fun K hK => ?_
        | refine W_drwNe 6 (by decide) mixed (by decide +kernel) fun K hK => ?_
        | (refine Zb ?_ ?_ <;> intro hb <;> first | (simp (disch := omega) only [go_sem, zz1] at hb; done) | (simp (disch := omega) only [go_sem, zz1] at hb; try omega) | try omega)
        | (refine Zl ?_; intro bn hnil; (try simp (disch := omega) only [go_sem, zz1] at hnil); dsimp only [putT, List.set_cons_succ, List.set_cons_zero])
      refine W_relaxT 8 2 _ (rws (grow f.lanes o)) rfl (grow_rel f.lanes o m h1 h6 h3) rfl ?_
      have e5 : m = (grow f.lanes o).length := by omega
      rw [e5]
      (apply W_frzI 8 (grow f.lanes o) ((grow f.lanes o).length); (case hl => simp only [go_sem]; exact rfl); (case e => first | rfl | (simp; done) | (simp [rws, Enc.enc]; done)); (case hn => first | rfl | (simp; done) | omega); (case e1 => exact subT); (case e2 => exact subU))
      repeat' first
        | refine Z0 ?_
        | refine Zx ?_
        | refine Zc c3 ?_
        | (refine Ze ?_; clear hK K)
        | refine W_reg fun K hK => ?_
        | refine W_drwR rfl mixed (by decide +kernel) fun K hK => ?_
        | refine W_drw mixed (by decide +kernel) fun K hK => ?_
        | (refine Zb ?_ ?_ <;> intro hb <;> first | (simp (disch := omega) only [go_sem] at hb; done) | (simp (disch := omega) only [go_sem] at hb; try omega) | try omega)
        | (refine Zl ?_; intro bn hnil; (try simp (disch := omega) only [go_sem] at hnil); dsimp only [putT, List.set_cons_succ, List.set_cons_zero])
      exact Zr
  · have hm := Bool.eq_false_iff.2 hm
    have e1 : shape f o g n = (zeroF, 1) := by rw [shape, if_neg (by rw [hm]; simp)]
    rw [e1]
    rw [hm] at c1
    repeat' first
      | refine Z0 ?_
      | refine Zx ?_
      | refine Zc c1 ?_
      | (refine Ze ?_; clear hK K)
      | refine W_reg fun K hK => ?_
      | refine W_drwR rfl mixed (by decide +kernel) fun K hK => ?_
      | refine W_drw mixed (by decide +kernel) fun K hK => ?_
      | (refine Zb ?_ ?_ <;> intro hb <;> first | (simp (disch := omega) only [go_sem] at hb; done) | (simp (disch := omega) only [go_sem] at hb; try omega) | try omega)
      | (refine Zl ?_; intro bn hnil; (try simp (disch := omega) only [go_sem] at hnil); dsimp only [putT, List.set_cons_succ, List.set_cons_zero])
    exact Zr

theorem rshut_ok (f : TFair) (hf : okF 1000 1000 f) : PCall Try.prog 57 [.agg (Enc.enc f)] (· = .agg (Enc.enc (shut f))) := by
  have c1 := fcopy_ok f hf
  have c2 := rtrim_ok ⟨f.r, f.guess, f.length, 0, f.lanes⟩ hf
  have hn := hf.1
  refine PCall_intro (c := Try.f57.body.getD .skip) Try.func57 rfl (by decide +kernel) Zf (W_start ?_)
  simp only [Try.f57, go_sem]
  rw [show shut f = ftrim ⟨f.r, f.guess, f.length, 0, f.lanes⟩ from rfl]
  repeat' first
    | refine Z0 ?_
    | refine Zx ?_
    | refine Zw c1 ?_
    | (refine Ze ?_; clear hK K)
    | refine W_regNe 3 (by decide) fun K hK => ?_
    | refine W_drwRNe 3 (by decide) rfl mixed (by decide +kernel) fun K hK => ?_
    | refine W_drwNe 3 (by decide) mixed (by decide +kernel) fun K hK => ?_
    | (refine Zb ?_ ?_ <;> intro hb <;> first | (simp (disch := omega) only [go_sem] at hb; done) | (simp (disch := omega) only [go_sem] at hb; try omega) | try omega)
    | (refine Zl ?_; intro bn hnil; (try simp (disch := omega) only [go_sem] at hnil); dsimp only [putT, List.set_cons_succ, List.set_cons_zero])
  (apply W_frzI 3 (f.lanes) (f.lanes.length); (case hl => simp only [go_sem]; exact rfl); (case e => first | rfl | (simp; done) | (simp [rws, Enc.enc]; done)); (case hn => first | rfl | (simp; done) | omega); (case e1 => exact subT); (case e2 => exact subU))
  repeat' first
    | refine Z0 ?_
    | refine Zx ?_
    | refine Zc c2 ?_
    | (refine Ze ?_; clear hK K)
    | refine W_reg fun K hK => ?_
    | refine W_drwR rfl mixed (by decide +kernel) fun K hK => ?_
    | refine W_drw mixed (by decide +kernel) fun K hK => ?_
    | (refine Zb ?_ ?_ <;> intro hb <;> first | (simp (disch := omega) only [go_sem] at hb; done) | (simp (disch := omega) only [go_sem] at hb; try omega) | try omega)
    | (refine Zl ?_; intro bn hnil; (try simp (disch := omega) only [go_sem] at hnil); dsimp only [putT, List.set_cons_succ, List.set_cons_zero])
  exact Zr

theorem rwaiting_ok (f : TFair) (hf : okF 1000 1000 f) : PCall Try.prog 60 [.agg (Enc.enc f)] (· = .int .i64 (waiting f)) := by
  have hn := hf.1
  refine PCall_intro (c := Try.f60.body.getD .skip) Try.func60 rfl (by decide +kernel) Zf (W_start ?_)
  simp only [Try.f60, go_sem]
  repeat' first
    | refine Z0 ?_
    | refine Zx ?_
    | (refine Ze ?_; clear hK K)
    | refine W_reg fun K hK => ?_
    | refine W_drwR rfl mixed (by decide +kernel) fun K hK => ?_
    | refine W_drw mixed (by decide +kernel) fun K hK => ?_
    | (refine Zb ?_ ?_ <;> intro hb <;> first | (simp (disch := omega) only [go_sem] at hb; done) | (simp (disch := omega) only [go_sem] at hb; try omega) | try omega)
    | (refine Zl ?_; intro bn hnil; (try simp (disch := omega) only [go_sem] at hnil); dsimp only [putT, List.set_cons_succ, List.set_cons_zero])
  refine W_foldK (fun (a : Nat × Int) => [none, none, none, some (.int .i64 a.2), some (.int .i64 a.1), some .junk, some .junk, some .junk, some .junk, some .junk, some .junk, some .junk, some .junk, some .junk, some .junk, some .junk, some .junk, some .junk, some .junk, some .junk, some .junk]) (fun a => a.1 ≤ f.lanes.length ∧ a.2 = ((f.lanes.take a.1).map fun l => (l.wait.length : Int)).sum) (fun a => f.lanes.length - a.1) (0, 0) ⟨by simp, by simp⟩ (by exact weak_mk wkD wkH wkN wkM (by omega)) ?_
  rintro ⟨i, n⟩ ⟨hi, hs⟩
  simp only [] at hi hs
  simp only [msk_none, msk_some, msk_nil]
  have hb := waiting_take 1000 f.lanes (fun l hl => (hf.2 l hl).2) i
  rw [← hs] at hb
  rcases Nat.lt_or_ge i f.lanes.length with h4 | h4
  · obtain ⟨x, hx⟩ := some_of_lt h4
    have e1 := sum_take (f := fun l : TLane => (l.wait.length : Int)) hx
    rw [← hs] at e1
    have b1 := (hf.2 x (List.mem_of_getElem? hx)).2
    have zz1 := rws_get hx
    repeat' first
      | refine Z1 ?_
      | refine Zx ?_
      | (refine Ze ?_; clear hK K)
      | refine W_reg fun K hK => ?_
      | refine W_drwR rfl mixed (by decide +kernel) fun K hK => ?_
      | refine W_drw mixed (by decide +kernel) fun K hK => ?_
      | (refine Zb ?_ ?_ <;> intro hb <;> first | (simp (disch := omega) only [go_sem, zz1] at hb; done) | (simp (disch := omega) only [go_sem, zz1] at hb; try omega) | try omega)
      | (refine Zl ?_; intro bn hnil; (try simp (disch := omega) only [go_sem, zz1] at hnil); dsimp only [putT, List.set_cons_succ, List.set_cons_zero])
    exact L_next ⟨(i + 1, n + x.wait.length), by simp; omega, ⟨by simp; omega, e1.symm⟩, (by exact weak_mk wkD wkH wkN wkM (by omega))⟩
  · obtain rfl : i = f.lanes.length := by omega
    rw [List.take_length] at hs
    have e1 : waiting f = n := hs.symm
    rw [e1]
    repeat' first
      | refine Z0 ?_
      | refine Zx ?_
      | (refine Ze ?_; clear hK K)
      | refine W_reg fun K hK => ?_
      | refine W_drwR rfl mixed (by decide +kernel) fun K hK => ?_
      | refine W_drw mixed (by decide +kernel) fun K hK => ?_
      | (refine Zb ?_ ?_ <;> intro hb <;> first | (simp (disch := omega) only [go_sem] at hb; done) | (simp (disch := omega) only [go_sem] at hb; try omega) | try omega)
      | (refine Zl ?_; intro bn hnil; (try simp (disch := omega) only [go_sem] at hnil); dsimp only [putT, List.set_cons_succ, List.set_cons_zero])
    exact Zr

theorem rfseats_ok (f : TFair) (hf : okF 1000 1000 f) : PCall Try.prog 61 [.agg (Enc.enc f)] (· = .int .i64 (fseats f)) := by
  have hn := hf.1
  refine PCall_intro (c := Try.f61.body.getD .skip) Try.func61 rfl (by decide +kernel) Zf (W_start ?_)
  simp only [Try.f61, go_sem]
  repeat' first
    | refine Z0 ?_
    | refine Zx ?_
    | (refine Ze ?_; clear hK K)
    | refine W_reg fun K hK => ?_
    | refine W_drwR rfl mixed (by decide +kernel) fun K hK => ?_
    | refine W_drw mixed (by decide +kernel) fun K hK => ?_
    | (refine Zb ?_ ?_ <;> intro hb <;> first | (simp (disch := omega) only [go_sem] at hb; done) | (simp (disch := omega) only [go_sem] at hb; try omega) | try omega)
    | (refine Zl ?_; intro bn hnil; (try simp (disch := omega) only [go_sem] at hnil); dsimp only [putT, List.set_cons_succ, List.set_cons_zero])
  refine W_foldK (fun (a : Nat × Int) => [none, none, none, some (.int .i64 a.2), some (.int .i64 a.1), some .junk, some .junk, some .junk, some .junk, some .junk, some .junk, some .junk, some .junk, some .junk, some .junk, some .junk, some .junk, some .junk, some .junk, some .junk]) (fun a => a.1 ≤ f.lanes.length ∧ a.2 = ((f.lanes.take a.1).map seats).sum) (fun a => f.lanes.length - a.1) (0, 0) ⟨by simp, by simp⟩ (by exact weak_mk wkD wkH wkN wkM (by omega)) ?_
  rintro ⟨i, n⟩ ⟨hi, hs⟩
  simp only [] at hi hs
  simp only [msk_none, msk_some, msk_nil]
  have hb := fseats_take 1000 f.lanes (fun l hl => (hf.2 l hl).2) i
  rw [← hs] at hb
  rcases Nat.lt_or_ge i f.lanes.length with h4 | h4
  · obtain ⟨x, hx⟩ := some_of_lt h4
    have e1 := sum_take (f := seats) hx
    rw [← hs] at e1
    have b1 := (hf.2 x (List.mem_of_getElem? hx)).2
    have b2 := seats_le x 1000 b1
    have c1 := rseats_ok x (by omega)
    have zz1 := rws_get hx
    repeat' first
      | refine Z1 ?_
      | refine Zx ?_
      | refine Zc c1 ?_
      | (refine Ze ?_; clear hK K)
      | refine W_reg fun K hK => ?_
      | refine W_drwR rfl mixed (by decide +kernel) fun K hK => ?_
      | refine W_drw mixed (by decide +kernel) fun K hK => ?_
      | (refine Zb ?_ ?_ <;> intro hb <;> first | (simp (disch := omega) only [go_sem, zz1] at hb; done) | (simp (disch := omega) only [go_sem, zz1] at hb; try omega) | try omega)
      | (refine Zl ?_; intro bn hnil; (try simp (disch := omega) only [go_sem, zz1] at hnil); dsimp only [putT, List.set_cons_succ, List.set_cons_zero])
    exact L_next ⟨(i + 1, n + seats x), by simp; omega, ⟨by simp; omega, e1.symm⟩, (by exact weak_mk wkD wkH wkN wkM (by omega))⟩
  · obtain rfl : i = f.lanes.length := by omega
    rw [List.take_length] at hs
    have e1 : fseats f = n := hs.symm
    rw [e1]
    repeat' first
      | refine Z0 ?_
      | refine Zx ?_
      | (refine Ze ?_; clear hK K)
      | refine W_reg fun K hK => ?_
      | refine W_drwR rfl mixed (by decide +kernel) fun K hK => ?_
      | refine W_drw mixed (by decide +kernel) fun K hK => ?_
      | (refine Zb ?_ ?_ <;> intro hb <;> first | (simp (disch := omega) only [go_sem] at hb; done) | (simp (disch := omega) only [go_sem] at hb; try omega) | try omega)
      | (refine Zl ?_; intro bn hnil; (try simp (disch := omega) only [go_sem] at hnil); dsimp only [putT, List.set_cons_succ, List.set_cons_zero])
    exact Zr

theorem fsame_ok (a b : TFair) (ha : okF 1000 1000 a) (hb : okF 1000 1000 b) : PCall Try.prog 48 [.agg (Enc.enc a), .agg (Enc.enc b)] (· = .bool (decide (a = b))) := by
  have hna := ha.1
  have hnb := hb.1
  by_cases h : a.r = b.r ∧ a.guess = b.guess ∧ a.length = b.length ∧ a.open_ = b.open_ ∧ a.lanes.length = b.lanes.length
  · obtain ⟨h1, h2, h3, h4, h5⟩ := h
    have e0 : (a = b) ↔ a.lanes = b.lanes := ⟨fun e => by rw [e], fun e => by cases a; cases b; simp_all⟩
    refine PCall_intro (c := Try.f48.body.getD .skip) Try.func48 rfl (by decide +kernel) Zf (W_start ?_)
    simp only [Try.f48, go_sem]
    repeat' first
      | refine Z0 ?_
      | refine Zx ?_
      | (refine Ze ?_; clear hK K)
      | refine W_reg fun K hK => ?_
      | refine W_drwR rfl mixed (by decide +kernel) fun K hK => ?_
      | refine W_drw mixed (by decide +kernel) fun K hK => ?_
      | (refine Zb ?_ ?_ <;> intro hb <;> first | (simp (disch := omega) only [go_sem] at hb; done) | (simp (disch := omega) only [go_sem] at hb; try omega) | try omega)
      | (refine Zl ?_; intro bn hnil; (try simp (disch := omega) only [go_sem] at hnil); dsimp only [putT, List.set_cons_succ, List.set_cons_zero])
    refine W_foldK (fun (i : Nat) => [none, none, none, none, some .junk, some (.int .i64 i), none, none, none, none, none, none, none, none, none, none, none, none, none, none, none, none, none, none, none, none, none, none, none, none, none, none, none, none, none, none, none, none, none, none, none, some .junk, some .junk, some .junk, some .junk, some .junk, some .junk, some .junk, some .junk, some .junk, some .junk, some .junk, some .junk, some .junk, some .junk, some .junk, some .junk, some .junk, some .junk, some .junk]) (fun i => i ≤ a.lanes.length ∧ ∀ k, k < i → a.lanes[k]? = b.lanes[k]?) (fun i => a.lanes.length - i) 0 ⟨by simp, by omega⟩ (by exact weak_mk wkD wkH wkN wkM (by omega)) ?_
    rintro i ⟨hi, hno⟩
    simp only [msk_none, msk_some, msk_nil]
    rcases Nat.lt_or_ge i a.lanes.length with h6 | h6
    · obtain ⟨x, hx⟩ := some_of_lt h6
      obtain ⟨y, hy⟩ := some_of_lt (l := b.lanes) (i := i) (by omega)
      have c1 := same_ok x y (Nat.le_trans (ha.2 x (List.mem_of_getElem? hx)).2 (by omega)) (Nat.le_trans (hb.2 y (List.mem_of_getElem? hy)).2 (by omega))
      by_cases hp : x = y
      · rw [decide_eq_true hp] at c1
        have zz1 := rws_get hx
        have zz2 := rws_get hy
        repeat' first
          | refine Z2 ?_
          | refine Zx ?_
          | refine Zc c1 ?_
          | (refine Ze ?_; clear hK K)
          | refine W_reg fun K hK => ?_
          | refine W_drwR rfl mixed (by decide +kernel) fun K hK => ?_
          | refine W_drw mixed (by decide +kernel) fun K hK => ?_
          | (refine Zb ?_ ?_ <;> intro hb <;> first | (simp (disch := omega) only [go_sem, zz1, zz2] at hb; done) | (simp (disch := omega) only [go_sem, zz1, zz2] at hb; try omega) | try omega)
          | (refine Zl ?_; intro bn hnil; (try simp (disch := omega) only [go_sem, zz1, zz2] at hnil); dsimp only [putT, List.set_cons_succ, List.set_cons_zero])
        exact L_next ⟨i + 1, by omega, ⟨by omega, same_step hx hy hp hno⟩, (by exact weak_mk wkD wkH wkN wkM (by omega))⟩
      · have e1 : decide (a = b) = false := by
          rw [decide_eq_false_iff_not]
          rintro rfl
          rw [hx] at hy
          injection hy with hy
          exact hp hy
        rw [decide_eq_false hp] at c1
        rw [e1]
        have zz1 := rws_get hx
        have zz2 := rws_get hy
        repeat' first
          | refine Z2 ?_
          | refine Zx ?_
          | refine Zc c1 ?_
          | (refine Ze ?_; clear hK K)
          | refine W_reg fun K hK => ?_
          | refine W_drwR rfl mixed (by decide +kernel) fun K hK => ?_
          | refine W_drw mixed (by decide +kernel) fun K hK => ?_
          | (refine Zb ?_ ?_ <;> intro hb <;> first | (simp (disch := omega) only [go_sem, zz1, zz2] at hb; done) | (simp (disch := omega) only [go_sem, zz1, zz2] at hb; try omega) | try omega)
          | (refine Zl ?_; intro bn hnil; (try simp (disch := omega) only [go_sem, zz1, zz2] at hnil); dsimp only [putT, List.set_cons_succ, List.set_cons_zero])
        exact Zr
    · have e1 : decide (a = b) = true := by
        rw [decide_eq_true_eq, e0]
        refine List.ext_getElem? fun k => ?_
        rcases Nat.lt_or_ge k i with h5 | h5
        · exact hno k h5
        · rw [List.getElem?_eq_none (by omega), List.getElem?_eq_none (by omega)]
      rw [e1]
      repeat' first
        | refine Z0 ?_
        | refine Zx ?_
        | (refine Ze ?_; clear hK K)
        | refine W_reg fun K hK => ?_
        | refine W_drwR rfl mixed (by decide +kernel) fun K hK => ?_
        | refine W_drw mixed (by decide +kernel) fun K hK => ?_
        | (refine Zb ?_ ?_ <;> intro hb <;> first | (simp (disch := omega) only [go_sem] at hb; done) | (simp (disch := omega) only [go_sem] at hb; try omega) | try omega)
        | (refine Zl ?_; intro bn hnil; (try simp (disch := omega) only [go_sem] at hnil); dsimp only [putT, List.set_cons_succ, List.set_cons_zero])
      exact Zr
  · have e1 : decide (a = b) = false := by
      rw [decide_eq_false_iff_not]
      rintro rfl
      exact h ⟨rfl, rfl, rfl, rfl, rfl⟩
    rw [e1]
    refine PCall_intro (c := Try.f48.body.getD .skip) Try.func48 rfl (by decide +kernel) Zf (W_start ?_)
    simp only [Try.f48, go_sem]
    repeat' first
      | refine Z0 ?_
      | refine Zx ?_
      | (refine Ze ?_; clear hK K)
      | refine W_reg fun K hK => ?_
      | refine W_drwR rfl mixed (by decide +kernel) fun K hK => ?_
      | refine W_drw mixed (by decide +kernel) fun K hK => ?_
      | (refine Zb ?_ ?_ <;> intro hb <;> first | (simp (disch := omega) only [go_sem] at hb; done) | (simp (disch := omega) only [go_sem] at hb; try omega) | try omega)
      | (refine Zl ?_; intro bn hnil; (try simp (disch := omega) only [go_sem] at hnil); dsimp only [putT, List.set_cons_succ, List.set_cons_zero])
    all_goals first | (exfalso; omega) | skip
    all_goals exact Zr

end Go.Proofs.Ytdgjelfeclgolaa
