/-
  Lanes that take turns: the program's next, join, take, drop, shape, new, shut; walked.
-/
import Derived.Test.YtdgjelfeclgolaaF10
namespace Go.Proofs.Ytdgjelfeclgolaa
open Go Go.AM
set_option maxHeartbeats 4000000
set_option linter.unusedSimpArgs false
set_option linter.unusedVariables false

theorem next_ok (f : TFair) (hf : okF 1000 1000 f) : PCall Try.prog 44 [.agg (Enc.enc f)] (· = .tuple [.int .i64 (max (next f) 0), .bool (decide (0 ≤ next f))]) := by
  have hn := hf.1
  refine PCall_intro (c := Try.f44.body.getD .skip) Try.func44 rfl (by decide +kernel) Zf (W_start ?_)
  simp only [Try.f44, go_sem]
  repeat' first
    | refine Z0 ?_
    | refine Zx ?_
    | (refine Ze ?_; clear hK K)
    | refine W_reg fun K hK => ?_
    | refine W_drwR rfl mixed (by decide +kernel) fun K hK => ?_
    | refine W_drw mixed (by decide +kernel) fun K hK => ?_
    | (refine Zb ?_ ?_ <;> intro hb <;> first | (simp (disch := omega) only [go_sem] at hb; done) | (simp (disch := omega) only [go_sem] at hb; try omega) | try omega)
    | (refine Zl ?_; intro bn hnil; (try simp (disch := omega) only [go_sem] at hnil); dsimp only [putT, List.set_cons_succ, List.set_cons_zero])
  refine W_foldK (fun (a : Nat × Int × Int) => [none, none, none, none, some (.int .i64 a.2.1), some (.int .u64 a.2.2), some .junk, some .junk, some .junk, some .junk, none, none, none, some (.int .i64 a.1), some .junk, some .junk, some .junk, some .junk, some .junk, some .junk, some .junk, some .junk, some .junk, some .junk, some .junk, some .junk, some .junk, some .junk, some .junk, some .junk, some .junk, some .junk, some .junk, some .junk, some .junk, some .junk, some .junk, some .junk]) (fun a => a.1 ≤ f.lanes.length ∧ a.2.1 = pick (okNext f) (fun k => (fin (laneAt f k) f.guess).1) ((idxs f.lanes.length).take a.1) ∧ (0 ≤ a.2.1 → a.2.2 = (fin (laneAt f a.2.1) f.guess).1)) (fun a => f.lanes.length - a.1) (0, -1, 0) ⟨by simp, rfl, by simp⟩ (by exact weak_mk wkD wkH wkN wkM (by omega)) ?_
  rintro ⟨i, b, s⟩ ⟨h1, h2, h3⟩
  simp only [] at h1 h2 h3
  simp only [msk_none, msk_some, msk_nil]
  rcases Nat.lt_or_ge i f.lanes.length with h4 | h4
  · obtain ⟨x, hx⟩ := some_of_lt h4
    have e1 := pick_snoc (s := fun k => (fin (laneAt f k) f.guess).1) (okNext_ge f) ((idxs f.lanes.length).take i) (i : Int)
    rw [← take_snoc (idxs_get h4), ← h2] at e1
    have h5 := hf.2 x (List.mem_of_getElem? hx)
    have c1 := fin_ok x f.guess h5.1 (by omega)
    have l1 := laneAt_nat hx
    have e2 : okNext f i = (fin x f.guess).2 := by simp [okNext, l1]
    simp only [e2, l1] at e1
    have e0 : (b < 0 ∨ (fin x f.guess).1 < (fin (laneAt f b) f.guess).1) ↔ (b < 0 ∨ (fin x f.guess).1 < s) := by
      rcases Int.lt_or_le b 0 with h8 | h8
      · simp [h8]
      · rw [h3 h8]
    have e3 : ∀ p : Int × Bool, fin x f.guess = p → fin (laneAt f (i : Int)) f.guess = p := by rw [l1]; exact fun _ h => h
    generalize fin x f.guess = F at *
    obtain ⟨F, o⟩ := F
    simp only [] at e0 e1 c1
    cases o with
    | true =>
      simp only [true_and] at e1
      by_cases hb : b < 0 ∨ F < s
      · rw [if_pos (e0.2 hb)] at e1
        have zz1 := rws_get hx
        repeat' first
          | refine Z1 ?_
          | refine Zx ?_
          | refine Zc c1 ?_
          | (refine Ze ?_; clear hK K)
          | refine W_reg fun K hK => ?_
          | refine W_drwR rfl mixed (by decide +kernel) fun K hK => ?_
          | refine W_drw mixed (by decide +kernel) fun K hK => ?_
          | (refine Zb ?_ ?_ <;> intro hb <;> first | (simp (disch := omega) only [go_sem, zz1] at hb; done) | (simp (disch := omega) only [go_sem, zz1] at hb; try omega) | try omega)
          | (refine Zl ?_; intro bn hnil; (try simp (disch := omega) only [go_sem, zz1] at hnil); dsimp only [putT, List.set_cons_succ, List.set_cons_zero])
        all_goals exact L_next ⟨(i + 1, i, F), by simp; omega, ⟨by simp; omega, e1.symm, fun _ => by rw [e3 _ rfl]⟩, (by exact weak_mk wkD wkH wkN wkM (by omega))⟩
      · rw [if_neg (fun e => hb (e0.1 e))] at e1
        have zz1 := rws_get hx
        repeat' first
          | refine Z1 ?_
          | refine Zx ?_
          | refine Zc c1 ?_
          | (refine Ze ?_; clear hK K)
          | refine W_reg fun K hK => ?_
          | refine W_drwR rfl mixed (by decide +kernel) fun K hK => ?_
          | refine W_drw mixed (by decide +kernel) fun K hK => ?_
          | (refine Zb ?_ ?_ <;> intro hb <;> first | (simp (disch := omega) only [go_sem, zz1] at hb; done) | (simp (disch := omega) only [go_sem, zz1] at hb; try omega) | try omega)
          | (refine Zl ?_; intro bn hnil; (try simp (disch := omega) only [go_sem, zz1] at hnil); dsimp only [putT, List.set_cons_succ, List.set_cons_zero])
        all_goals exact L_next ⟨(i + 1, b, s), by simp; omega, ⟨by simp; omega, e1.symm, h3⟩, (by exact weak_mk wkD wkH wkN wkM (by omega))⟩
    | false =>
      simp only [Bool.false_eq_true, false_and, if_false] at e1
      have zz1 := rws_get hx
      repeat' first
        | refine Z1 ?_
        | refine Zx ?_
        | refine Zc c1 ?_
        | (refine Ze ?_; clear hK K)
        | refine W_reg fun K hK => ?_
        | refine W_drwR rfl mixed (by decide +kernel) fun K hK => ?_
        | refine W_drw mixed (by decide +kernel) fun K hK => ?_
        | (refine Zb ?_ ?_ <;> intro hb <;> first | (simp (disch := omega) only [go_sem, zz1] at hb; done) | (simp (disch := omega) only [go_sem, zz1] at hb; try omega) | try omega)
        | (refine Zl ?_; intro bn hnil; (try simp (disch := omega) only [go_sem, zz1] at hnil); dsimp only [putT, List.set_cons_succ, List.set_cons_zero])
      all_goals exact L_next ⟨(i + 1, b, s), by simp; omega, ⟨by simp; omega, e1.symm, h3⟩, (by exact weak_mk wkD wkH wkN wkM (by omega))⟩
  · obtain rfl : i = f.lanes.length := by omega
    rw [List.take_of_length_le (by rw [idxs_length]; omega)] at h2
    have e1 : next f = b := h2.symm
    rw [e1]
    repeat' first
      | refine Z0 ?_
      | refine Zx ?_
      | (refine Ze ?_; clear hK K)
      | refine W_reg fun K hK => ?_
      | refine W_drwR rfl mixed (by decide +kernel) fun K hK => ?_
      | refine W_drw mixed (by decide +kernel) fun K hK => ?_
      | (refine Zb ?_ ?_ <;> intro hb <;> first | (simp (disch := omega) only [go_sem] at hb; done) | (simp (disch := omega) only [go_sem] at hb; try omega) | try omega)
      | (refine Zl ?_; intro bn hnil; (try simp (disch := omega) only [go_sem] at hnil); dsimp only [putT, List.set_cons_succ, List.set_cons_zero])
    exact Zr

/-- Lanes, a number, an error. -/
abbrev joinV (r : TFair × Int × Int) : AVal := .tuple [.agg (Enc.enc r.1), .int .i64 r.2.1, .int .i64 r.2.2]
/-- Lanes, a ticket, was there one? -/
abbrev fairV (r : TFair × TTicket × Bool) : AVal := .tuple [.agg (Enc.enc r.1), .agg (Enc.enc r.2.1), .bool r.2.2]
abbrev shapeV (r : TFair × Int) : AVal := .tuple [.agg (Enc.enc r.1), .int .i64 r.2]

theorem join_len2 (l : TLane) (r : Int) (t : TTicket) (h : 0 ≤ l.start) : (join l r t).wait.length = l.wait.length + 1 ∧ 0 ≤ (join l r t).start := by
  refine ⟨by simp [join], ?_⟩
  simp only [join]
  split <;> omega

theorem fjoin_ok (f : TFair) (hand : List Int) (t : TTicket) (hf : okF 1000 1000 f) (hh : hand.length ≤ maxLen) : PCall Try.prog 50 [.agg (Enc.enc f), .sl (rws hand) none, .agg (Enc.enc t)] (· = joinV (fjoin f hand t)) := by
  have c1 := choose_ok f hand hf hh
  have c2 := fcopied_ok f hf
  have hn := hf.1
  refine PCall_intro (c := Try.f50.body.getD .skip) Try.func50 rfl (by decide +kernel) Zf (W_start ?_)
  simp only [Try.f50, go_sem]
  rcases choose_cases f hand with h1 | ⟨h1, h2, h3⟩
  · have e1 : fjoin f hand t = (zeroF, 0, 6) := by rw [fjoin, if_pos (by omega)]
    rw [e1]
    rw [h1] at c1
    repeat' first
      | refine Z0 ?_
      | refine Zx ?_
      | refine Zc c1 ?_
      | (refine Ze ?_; clear hK K)
      | refine W_reg fun K hK => ?_
      | refine W_drwR rfl mixed (by decide +kernel) fun K hK => ?_
      | refine W_drw mixed (by decide +kernel) fun K hK => ?_
      | (refine Zb ?_ ?_ <;> intro hb <;> first | (simp (disch := omega) only [go_sem] at hb; done) | (simp (disch := omega) only [go_sem] at hb; try omega) | try omega)
      | (refine Zl ?_; intro bn hnil; (try simp (disch := omega) only [go_sem] at hnil); dsimp only [putT, List.set_cons_succ, List.set_cons_zero])
    exact Zr
  · have hx := laneAt_get h1 h3
    have h5 := hf.2 _ (List.mem_of_getElem? hx)
    generalize hk : choose f hand = k at *
    obtain ⟨k, rfl⟩ : ∃ n : Nat, k = n := ⟨k.toNat, by omega⟩
    rw [Int.toNat_natCast] at hx
    generalize hl : laneAt f (k : Int) = l at *
    by_cases h6 : f.length ≤ l.wait.length
    · have e1 : fjoin f hand t = (zeroF, 0, 7) := by rw [fjoin, hk, if_neg (by omega), hl, if_pos h6]
      rw [e1]
      have zz1 := rws_get hx
      repeat' first
        | refine Z1 ?_
        | refine Zx ?_
        | refine Zc c1 ?_
        | (refine Ze ?_; clear hK K)
        | refine W_reg fun K hK => ?_
        | refine W_drwR rfl mixed (by decide +kernel) fun K hK => ?_
        | refine W_drw mixed (by decide +kernel) fun K hK => ?_
        | (refine Zb ?_ ?_ <;> intro hb <;> first | (simp (disch := omega) only [go_sem, zz1] at hb; done) | (simp (disch := omega) only [go_sem, zz1] at hb; try omega) | try omega)
        | (refine Zl ?_; intro bn hnil; (try simp (disch := omega) only [go_sem, zz1] at hnil); dsimp only [putT, List.set_cons_succ, List.set_cons_zero])
      exact Zr
    · have e1 : fjoin f hand t = (⟨f.r, f.guess, f.length, f.open_, f.lanes.set k (join l f.r t)⟩, (k : Int), 0) := by rw [fjoin, hk, if_neg (by omega), hl, if_neg h6, Int.toNat_natCast]
      rw [e1]
      have c3 := join_ok l f.r t (by omega)
      have e2 := set_row f.lanes k (join l f.r t)
      generalize join l f.r t = J at *
      have zz1 := rws_get hx
      have zz2 := e2
      repeat' first
        | refine Z2 ?_
        | refine Zx ?_
        | refine Zc c1 ?_
        | refine Zw c2 ?_
        | refine Zc c3 ?_
        | (refine Ze ?_; clear hK K)
        | refine W_reg fun K hK => ?_
        | refine W_drwR rfl mixed (by decide +kernel) fun K hK => ?_
        | refine W_drw mixed (by decide +kernel) fun K hK => ?_
        | (refine Zb ?_ ?_ <;> intro hb <;> first | (simp (disch := omega) only [go_sem, zz1, zz2] at hb; done) | (simp (disch := omega) only [go_sem, zz1, zz2] at hb; try omega) | try omega)
        | (refine Zl ?_; intro bn hnil; (try simp (disch := omega) only [go_sem, zz1, zz2] at hnil); dsimp only [putT, List.set_cons_succ, List.set_cons_zero])
      exact Zr

theorem take_len2 (l : TLane) (g : Int) (h : 0 ≤ l.start) : (take l g).1.wait.length ≤ l.wait.length ∧ 0 ≤ (take l g).1.start := by
  rcases hw : l.wait with _ | ⟨t, w⟩
  · rw [take, hw]
    exact ⟨by simp [hw], h⟩
  · have := work_le t g
    rw [take, hw]
    refine ⟨by simp, ?_⟩
    simp only [add, cap]
    omega

theorem drop_len2 (l : TLane) (id : Int) (h : 0 ≤ l.start) : (drop l id).1.wait.length ≤ l.wait.length ∧ 0 ≤ (drop l id).1.start := by
  rcases drop_cases l id with ⟨i, t, h1, h2, h3, h4, h5, h6⟩ | ⟨h1, h2, h3⟩
  · rw [h5]
    refine ⟨?_, h⟩
    simp only [List.length_eraseIdx]
    split <;> omega
  · rw [h2]
    exact ⟨Nat.le_refl _, h⟩

theorem ftake_ok (f : TFair) (hf : okF 1000 1000 f) : PCall Try.prog 45 [.agg (Enc.enc f)] (· = fairV (ftake f)) := by
  have c1 := fcopied_ok f hf
  have c2 := next_ok f hf
  have hn := hf.1
  refine PCall_intro (c := Try.f45.body.getD .skip) Try.func45 rfl (by decide +kernel) Zf (W_start ?_)
  simp only [Try.f45, go_sem]
  rcases next_cases f with ⟨h1, _⟩ | ⟨k, l, t, w, h1, hx, h3, h4, _⟩
  · have e1 : ftake f = (f, zeroT, false) := by rw [ftake, if_pos (by omega)]
    rw [e1]
    rw [h1, show max (-1 : Int) 0 = 0 by rfl, show decide ((0 : Int) ≤ -1) = false by rfl] at c2
    repeat' first
      | refine Z0 ?_
      | refine Zx ?_
      | refine Zw c1 ?_
      | refine Zn c2 ?_
      | (refine Ze ?_; clear hK K)
      | refine W_reg fun K hK => ?_
      | refine W_drwR rfl mixed (by decide +kernel) fun K hK => ?_
      | refine W_drw mixed (by decide +kernel) fun K hK => ?_
      | (refine Zb ?_ ?_ <;> intro hb <;> first | (simp (disch := omega) only [go_sem] at hb; done) | (simp (disch := omega) only [go_sem] at hb; try omega) | try omega)
      | (refine Zl ?_; intro bn hnil; (try simp (disch := omega) only [go_sem] at hnil); dsimp only [putT, List.set_cons_succ, List.set_cons_zero])
    exact Zr
  · rw [h1, show max (k : Int) 0 = k by omega, show decide ((0 : Int) ≤ k) = true by simp] at c2
    have h5 := hf.2 _ (List.mem_of_getElem? hx)
    have hk := (List.getElem?_eq_some_iff.1 hx).1
    have c3 := take_ok l f.guess h5.1 (by omega)
    have b1 := take_len2 l f.guess h5.1
    have e2 : take l f.guess = (⟨add l.start (work t f.guess), w⟩, t, true) := by rw [take, h3]
    have e1 : ftake f = (ftrim ⟨max f.r (take l f.guess).1.start, f.guess, f.length, f.open_, f.lanes.set k (take l f.guess).1⟩, (take l f.guess).2.1, true) := by rw [ftake, h1, if_neg (by omega), h4, Int.toNat_natCast]
    rw [e2] at c3 e1 b1
    simp only [laneV] at c3
    rw [e1]
    generalize (⟨add l.start (work t f.guess), w⟩ : TLane) = A at *
    dsimp only at b1
    have c4 := ftrim_ok _ (hf.set k A b1.2 (by omega) (max f.r A.start) f.guess f.length f.open_)
    have e3 := set_row f.lanes k A
    try dsimp only at c4 ⊢
    have zz1 := rws_get hx
    have zz2 := e3
    repeat' first
      | refine Z2 ?_
      | refine Zx ?_
      | refine Zw c1 ?_
      | refine Zn c2 ?_
      | refine Zc c3 ?_
      | (refine Ze ?_; clear hK K)
      | refine W_regNe 8 (by decide) fun K hK => ?_
      | refine W_drwRNe 8 (by decide) rfl mixed (by decide +kernel) fun K hK => ?_
      | refine W_drwNe 8 (by decide) mixed (by decide +kernel) fun K hK => ?_
      | (refine Zb ?_ ?_ <;> intro hb <;> first | (simp (disch := omega) only [go_sem, zz1, zz2] at hb; done) | (simp (disch := omega) only [go_sem, zz1, zz2] at hb; try omega) | try omega)
      | (refine Zl ?_; intro bn hnil; (try simp (disch := omega) only [go_sem, zz1, zz2] at hnil); dsimp only [putT, List.set_cons_succ, List.set_cons_zero])
    (apply W_frzT 34 (f.lanes.set k A); (case ht => exact rfl); (case hl => simp only [go_sem]; exact rfl); (case e => first | rfl | (simp; done) | (simp [rws, Enc.enc]; done)); (case hn => first | rfl | simp); (case e1 => exact subT); (case e2 => exact subU))
    repeat' first
      | refine Z0 ?_
      | refine Zx ?_
      | refine Zc c4 ?_
      | (refine Ze ?_; clear hK K)
      | refine W_reg fun K hK => ?_
      | refine W_drwR rfl mixed (by decide +kernel) fun K hK => ?_
      | refine W_drw mixed (by decide +kernel) fun K hK => ?_
      | (refine Zb ?_ ?_ <;> intro hb <;> first | (simp (disch := omega) only [go_sem] at hb; done) | (simp (disch := omega) only [go_sem] at hb; try omega) | try omega)
      | (refine Zl ?_; intro bn hnil; (try simp (disch := omega) only [go_sem] at hnil); dsimp only [putT, List.set_cons_succ, List.set_cons_zero])
    exact Zr

theorem fdrop_ok (f : TFair) (id : Int) (hf : okF 1000 1000 f) : PCall Try.prog 53 [.agg (Enc.enc f), .int .i64 id] (· = fairV (fdrop f id)) := by
  have c1 := fcopied_ok f hf
  have hn := hf.1
  refine PCall_intro (c := Try.f53.body.getD .skip) Try.func53 rfl (by decide +kernel) Zf (W_start ?_)
  simp only [Try.f53, go_sem]
  repeat' first
    | refine Z0 ?_
    | refine Zx ?_
    | refine Zw c1 ?_
    | (refine Ze ?_; clear hK K)
    | refine W_reg fun K hK => ?_
    | refine W_drwR rfl mixed (by decide +kernel) fun K hK => ?_
    | refine W_drw mixed (by decide +kernel) fun K hK => ?_
    | (refine Zb ?_ ?_ <;> intro hb <;> first | (simp (disch := omega) only [go_sem] at hb; done) | (simp (disch := omega) only [go_sem] at hb; try omega) | try omega)
    | (refine Zl ?_; intro bn hnil; (try simp (disch := omega) only [go_sem] at hnil); dsimp only [putT, List.set_cons_succ, List.set_cons_zero])
  refine W_foldK (fun (i : Nat) => [none, none, none, none, none, none, some .junk, some .junk, some .junk, some .junk, some .junk, none, none, none, none, none, some (.int .i64 i), some .junk, some .junk, some .junk, some .junk, some .junk, some .junk, some .junk, some .junk, some .junk, some .junk, some .junk, some .junk, some .junk, some .junk, some .junk, some .junk, some .junk, some .junk, some .junk, some .junk, some .junk, some .junk, some .junk]) (fun i => i ≤ f.lanes.length ∧ ∀ k l, k < i → f.lanes[k]? = some l → (drop l id).2.2 = false) (fun i => f.lanes.length - i) 0 ⟨by omega, by omega⟩ (by exact weak_mk wkD wkH wkN wkM (by omega)) ?_
  rintro i ⟨hi, hno⟩
  simp only [msk_none, msk_some, msk_nil]
  rcases Nat.lt_or_ge i f.lanes.length with h4 | h4
  · obtain ⟨l, hx⟩ := some_of_lt h4
    have h5 := hf.2 _ (List.mem_of_getElem? hx)
    have c2 := drop_ok l id (by omega)
    have b1 := drop_len2 l id h5.1
    have e1 : (drop l id).2.2 = true → fdrop f id = (ftrim ⟨f.r, f.guess, f.length, f.open_, f.lanes.set i (drop l id).1⟩, (drop l id).2.1, true) := fun h => by
      have e0 : dropAt f id = i := idx_at hx h hno
      rw [fdrop, e0, if_pos (by omega), laneAt_nat hx, Int.toNat_natCast]
    have e2 : (drop l id).2.2 = false → ∀ k l, k < i + 1 → f.lanes[k]? = some l → (drop l id).2.2 = false := fun h => no_step hx h hno
    simp only [laneV] at c2
    generalize drop l id = D at *
    obtain ⟨A, x, ok⟩ := D
    dsimp only at c2 e1 e2 b1
    cases ok with
    | false =>
      have zz1 := rws_get hx
      repeat' first
        | refine Z1 ?_
        | refine Zx ?_
        | refine Zc c2 ?_
        | (refine Ze ?_; clear hK K)
        | refine W_reg fun K hK => ?_
        | refine W_drwR rfl mixed (by decide +kernel) fun K hK => ?_
        | refine W_drw mixed (by decide +kernel) fun K hK => ?_
        | (refine Zb ?_ ?_ <;> intro hb <;> first | (simp (disch := omega) only [go_sem, zz1] at hb; done) | (simp (disch := omega) only [go_sem, zz1] at hb; try omega) | try omega)
        | (refine Zl ?_; intro bn hnil; (try simp (disch := omega) only [go_sem, zz1] at hnil); dsimp only [putT, List.set_cons_succ, List.set_cons_zero])
      exact L_next ⟨i + 1, by omega, ⟨by omega, e2 rfl⟩, (by exact weak_mk wkD wkH wkN wkM (by omega))⟩
    | true =>
      rw [e1 rfl]
      have c4 := ftrim_ok _ (hf.set i A b1.2 (by omega) f.r f.guess f.length f.open_)
      have e3 := set_row f.lanes i A
      try dsimp only at c4 ⊢
      have zz1 := rws_get hx
      have zz2 := e3
      repeat' first
        | refine Z2 ?_
        | refine Zx ?_
        | refine Zc c2 ?_
        | (refine Ze ?_; clear hK K)
        | refine W_regNe 8 (by decide) fun K hK => ?_
        | refine W_drwRNe 8 (by decide) rfl mixed (by decide +kernel) fun K hK => ?_
        | refine W_drwNe 8 (by decide) mixed (by decide +kernel) fun K hK => ?_
        | (refine Zb ?_ ?_ <;> intro hb <;> first | (simp (disch := omega) only [go_sem, zz1, zz2] at hb; done) | (simp (disch := omega) only [go_sem, zz1, zz2] at hb; try omega) | try omega)
        | (refine Zl ?_; intro bn hnil; (try simp (disch := omega) only [go_sem, zz1, zz2] at hnil); dsimp only [putT, List.set_cons_succ, List.set_cons_zero])
      (apply W_frzT 32 (f.lanes.set i A); (case ht => exact rfl); (case hl => simp only [go_sem]; exact rfl); (case e => first | rfl | (simp; done) | (simp [rws, Enc.enc]; done)); (case hn => first | rfl | simp); (case e1 => exact subT); (case e2 => exact subU))
      repeat' first
        | refine Z0 ?_
        | refine Zx ?_
        | refine Zc c4 ?_
        | (refine Ze ?_; clear hK K)
        | refine W_reg fun K hK => ?_
        | refine W_drwR rfl mixed (by decide +kernel) fun K hK => ?_
        | refine W_drw mixed (by decide +kernel) fun K hK => ?_
        | (refine Zb ?_ ?_ <;> intro hb <;> first | (simp (disch := omega) only [go_sem] at hb; done) | (simp (disch := omega) only [go_sem] at hb; try omega) | try omega)
        | (refine Zl ?_; intro bn hnil; (try simp (disch := omega) only [go_sem] at hnil); dsimp only [putT, List.set_cons_succ, List.set_cons_zero])
      exact Zr
  · obtain rfl : i = f.lanes.length := by omega
    have e0 : dropAt f id = -1 := idx_none hno
    have e1 : fdrop f id = (f, zeroT, false) := by rw [fdrop, e0, if_neg (by omega)]
    rw [e1]
    repeat' first
      | refine Z0 ?_
      | refine Zx ?_
      | (refine Ze ?_; clear hK K)
      | refine W_reg fun K hK => ?_
      | refine W_drwR rfl mixed (by decide +kernel) fun K hK => ?_
      | refine W_drw mixed (by decide +kernel) fun K hK => ?_
      | (refine Zb ?_ ?_ <;> intro hb <;> first | (simp (disch := omega) only [go_sem] at hb; done) | (simp (disch := omega) only [go_sem] at hb; try omega) | try omega)
      | (refine Zl ?_; intro bn hnil; (try simp (disch := omega) only [go_sem] at hnil); dsimp only [putT, List.set_cons_succ, List.set_cons_zero])
    exact Zr

theorem mayB_iff (o g n : Int) : mayB o g n = true ↔ (1 ≤ o ∧ o ≤ 64 ∧ 1 ≤ g ∧ g ≤ 1000 ∧ 1 ≤ n ∧ n ≤ 64) := by simp [mayB]

theorem may_ok (o g n : Int) : PCall Try.prog 104 [.int .i64 o, .int .i64 g, .int .i64 n] (· = .bool (mayB o g n)) := by
  refine PCall_intro (c := Try.f104.body.getD .skip) Try.func104 rfl (by decide +kernel) Zf (W_start ?_)
  simp only [Try.f104, go_sem]
  by_cases h : 1 ≤ o ∧ o ≤ 64 ∧ 1 ≤ g ∧ g ≤ 1000 ∧ 1 ≤ n ∧ n ≤ 64
  · rw [show mayB o g n = true from decide_eq_true h]
    obtain ⟨h1, h2, h3, h4, h5, h6⟩ := h
    repeat' first
      | refine Z0 ?_
      | refine Zx ?_
      | (refine Ze ?_; clear hK K)
      | refine W_reg fun K hK => ?_
      | refine W_drwR rfl mixed (by decide +kernel) fun K hK => ?_
      | refine W_drw mixed (by decide +kernel) fun K hK => ?_
      | (refine Zb ?_ ?_ <;> intro hb <;> first | (simp (disch := omega) only [go_sem] at hb; done) | (simp (disch := omega) only [go_sem] at hb; try omega) | try omega)
      | (refine Zl ?_; intro bn hnil; (try simp (disch := omega) only [go_sem] at hnil); dsimp only [putT, List.set_cons_succ, List.set_cons_zero])
    exact Zr
  · rw [show mayB o g n = false from decide_eq_false h]
    repeat' first
      | refine Z0 ?_
      | refine Zx ?_
      | (refine Ze ?_; clear hK K)
      | refine W_reg fun K hK => ?_
      | refine W_drwR rfl mixed (by decide +kernel) fun K hK => ?_
      | refine W_drw mixed (by decide +kernel) fun K hK => ?_
      | (refine Zb ?_ ?_ <;> intro hb <;> first | (simp (disch := omega) only [go_sem] at hb; done) | (simp (disch := omega) only [go_sem] at hb; try omega) | try omega)
      | (refine Zl ?_; intro bn hnil; (try simp (disch := omega) only [go_sem] at hnil); dsimp only [putT, List.set_cons_succ, List.set_cons_zero])
    all_goals first | (exfalso; omega) | skip
    all_goals exact Zr

theorem grow_len (l : List TLane) (o : Int) : (grow l o).length = max l.length o.toNat := by
  simp only [grow, List.length_append, List.length_replicate]
  omega

theorem okF.grow {n m : Nat} {f : TFair} (h : okF n m f) (o : Int) (ho : o ≤ 64) (hn : 64 ≤ n) (r g k o2 : Int) : okF n m ⟨r, g, k, o2, Go.Proofs.Ytdgjelfeclgolaa.grow f.lanes o⟩ := by
  refine ⟨by have := grow_len f.lanes o; have := h.1; simp only []; omega, fun l hl => ?_⟩
  rcases List.mem_append.1 hl with hl | hl
  · exact h.2 l hl
  · obtain ⟨_, rfl⟩ := List.mem_replicate.1 hl
    exact ⟨Int.le_refl _, Nat.zero_le _⟩

/-- A lane in memory, the spare room of its list known or not. -/
structure RLane where
  start : Int
  wait : List TTicket
  lim : Option Nat
instance : Enc RLane := ⟨fun x => [.int .u64 x.start, .sl (rws x.wait) x.lim], 2, fun _ => rfl, fun x y h => by
  simp only [List.mem_cons, List.not_mem_nil, or_false] at h
  rcases h with rfl | rfl
  · exact .int _ _
  · exact rws_fz _ _⟩
theorem enc_RLane (x : RLane) : Enc.enc x = [.int .u64 x.start, .sl (rws x.wait) x.lim] := rfl
theorem size_RLane : Enc.size RLane = 2 := rfl
attribute [go_sem] size_RLane

def raw (l : List TLane) : List RLane := l.map fun x => ⟨x.start, x.wait, none⟩
theorem rws_raw (l : List TLane) : rws l = rws (raw l) := by
  simp only [rws, raw, List.map_map]
  rfl
theorem raw_len (l : List TLane) : (raw l).length = l.length := by simp [raw]
def zeroR : RLane := ⟨0, [], some 0⟩

theorem app_rel {xs ys us vs : List (List AVal)} (f : FrR0 xs ys) (g : FrR0 us vs) : FrR0 (xs ++ us) (ys ++ vs) := by
  induction f with
  | nil => exact g
  | cons h1 _ ih => exact .cons h1 ih

theorem grow_rel (l : List TLane) (o : Int) (m : Nat) (hm : l.length ≤ m) (h1 : o ≤ m) (h2 : m = l.length ∨ m ≤ o) : FrR0 (rws (raw l ++ List.replicate (m - l.length) zeroR)) (rws (grow l o)) := by
  have e : m - l.length = o.toNat - l.length := by omega
  rw [e, grow, ← rws_append, ← rws_append, ← rws_rep, ← rws_rep, ← rws_raw]
  exact app_rel (FrR.refl _) (FrR.rep (.cons (.refl _) (.cons (.slR .nil) .nil)) _)

theorem shape_ok (f : TFair) (o g n : Int) (hf : okF 1000 1000 f) : PCall Try.prog 55 [.agg (Enc.enc f), .int .i64 o, .int .i64 g, .int .i64 n] (· = shapeV (shape f o g n)) := by
  have c1 := may_ok o g n
  have c2 := fcopied_ok f hf
  rw [rws_raw] at c2
  have hn := hf.1
  refine PCall_intro (c := Try.f55.body.getD .skip) Try.func55 rfl (by decide +kernel) Zf (W_start ?_)
  simp only [Try.f55, go_sem]
  by_cases hm : mayB o g n = true
  · have e1 : shape f o g n = (ftrim ⟨f.r, g, n, o, grow f.lanes o⟩, 0) := by rw [shape, if_pos hm]
    rw [e1]
    rw [hm] at c1
    have ho := (mayB_iff o g n).1 hm
    have c3 := ftrim_ok _ (hf.grow o (by omega) (by omega) f.r g n o)
    have e2 := grow_len f.lanes o
    repeat' first
      | refine Z0 ?_
      | refine Zx ?_
      | refine Zc c1 ?_
      | refine Zw c2 ?_
      | (refine Ze ?_; clear hK K)
      | refine W_reg fun K hK => ?_
      | refine W_drwR rfl mixed (by decide +kernel) fun K hK => ?_
      | refine W_drw mixed (by decide +kernel) fun K hK => ?_
      | (refine Zb ?_ ?_ <;> intro hb <;> first | (simp (disch := omega) only [go_sem] at hb; done) | (simp (disch := omega) only [go_sem] at hb; try omega) | try omega)
      | (refine Zl ?_; intro bn hnil; (try simp (disch := omega) only [go_sem] at hnil); dsimp only [putT, List.set_cons_succ, List.set_cons_zero])
    refine W_foldM (fun (a : Nat) => [none, none, none, none, none, none, none, none, none, none, none, none, none, none, none, none, none, none, none, none, none, none, none, none, some .junk, some .junk, some .junk, some .junk, some .junk, some .junk, some .junk, some .junk, some .junk, some .junk, some .junk]) (fun a => [(9, .arr 2 (rws (raw f.lanes ++ List.replicate (a - f.lanes.length) zeroR))), (1, .arr 5 [[.int .u64 0, .int .i64 0, .int .i64 0, .int .i64 0, .sl [] (some 0)]]), (0, .arr 5 [[.int .u64 f.r, .int .i64 g, .int .i64 n, .int .i64 o, .ref 9 a 0 a false a]])])
      (fun a => f.lanes.length ≤ a ∧ a ≤ 1000 ∧ (a = f.lanes.length ∨ a ≤ o)) (fun a => 1000 - a) f.lanes.length ⟨by simp, by simpa using hn, by simp⟩ (by exact weak_mk wkD wkH wkN wkM (by omega)) ?_
    rintro m ⟨h1, h2, h3⟩
    simp only [msk_none, msk_some, msk_nil]
    have h4 : (raw f.lanes ++ List.replicate (m - f.lanes.length) zeroR).length = m := by simp [raw_len]; omega
    rcases Int.lt_or_le m o with h6 | h6
    · have e3 : rws (raw f.lanes ++ List.replicate (m - f.lanes.length) zeroR) ++ [[.int .u64 0, .sl [] (some 0)]] = rws (raw f.lanes ++ List.replicate (m + 1 - f.lanes.length) zeroR) := by
        rw [show m + 1 - f.lanes.length = m - f.lanes.length + 1 by omega, List.replicate_succ', ← List.append_assoc, ← rws_snoc]
        rfl
      have zz1 := h4
      have zz2 := e3
      repeat' first
        | refine Z2 ?_
        | refine Zx ?_
        | (refine Ze ?_; clear hK K)
        | refine W_reg fun K hK => ?_
        | refine W_drwR rfl mixed (by decide +kernel) fun K hK => ?_
        | refine W_drw mixed (by decide +kernel) fun K hK => ?_
        | (refine Zb ?_ ?_ <;> intro hb <;> first | (simp (disch := omega) only [go_sem, zz1, zz2] at hb; done) | (simp (disch := omega) only [go_sem, zz1, zz2] at hb; try omega) | try omega)
        | (refine Zl ?_; intro bn hnil; (try simp (disch := omega) only [go_sem, zz1, zz2] at hnil); dsimp only [putT, List.set_cons_succ, List.set_cons_zero])
      exact L_next ⟨m + 1, by omega, ⟨by omega, by omega, by omega⟩, (by exact weak_mk wkD wkH wkN wkM (by omega))⟩
    · have zz1 := h4
      repeat' first
        | refine Z1 ?_
        | refine Zx ?_
        | (refine Ze ?_; clear hK K)
        | refine W_regNe 7 (by decide) fun K hK => ?_
        | refine W_drwRNe 7 (by decide) rfl mixed (by decide +kernel) fun K hK => ?_
        | refine W_drwNe 7 (by decide) mixed (by decide +kernel) fun K hK => ?_
        | (refine Zb ?_ ?_ <;> intro hb <;> first | (simp (disch := omega) only [go_sem, zz1] at hb; done) | (simp (disch := omega) only [go_sem, zz1] at hb; try omega) | try omega)
        | (refine Zl ?_; intro bn hnil; (try simp (disch := omega) only [go_sem, zz1] at hnil); dsimp only [putT, List.set_cons_succ, List.set_cons_zero])
      refine W_relaxT 9 2 _ (rws (grow f.lanes o)) rfl (grow_rel f.lanes o m h1 h6 h3) rfl ?_
      have e5 : m = (grow f.lanes o).length := by omega
      rw [e5]
      (apply W_frzT 25 (grow f.lanes o); (case ht => exact rfl); (case hl => simp only [go_sem]; exact rfl); (case e => first | rfl | (simp; done) | (simp [rws, Enc.enc]; done)); (case hn => first | rfl | simp); (case e1 => exact subT); (case e2 => exact subU))
      repeat' first
        | refine Z0 ?_
        | refine Zx ?_
        | refine Zc c3 ?_
        | (refine Ze ?_; clear hK K)
        | refine W_reg fun K hK => ?_
        | refine W_drwR rfl mixed (by decide +kernel) fun K hK => ?_
        | refine W_drw mixed (by decide +kernel) fun K hK => ?_
        | (refine Zb ?_ ?_ <;> intro hb <;> first | (simp (disch := omega) only [go_sem] at hb; done) | (simp (disch := omega) only [go_sem] at hb; try omega) | try omega)
        | (refine Zl ?_; intro bn hnil; (try simp (disch := omega) only [go_sem] at hnil); dsimp only [putT, List.set_cons_succ, List.set_cons_zero])
      exact Zr
  · have hm := Bool.eq_false_iff.2 hm
    have e1 : shape f o g n = (zeroF, 1) := by rw [shape, if_neg (by rw [hm]; simp)]
    rw [e1]
    rw [hm] at c1
    repeat' first
      | refine Z0 ?_
      | refine Zx ?_
      | refine Zc c1 ?_
      | (refine Ze ?_; clear hK K)
      | refine W_reg fun K hK => ?_
      | refine W_drwR rfl mixed (by decide +kernel) fun K hK => ?_
      | refine W_drw mixed (by decide +kernel) fun K hK => ?_
      | (refine Zb ?_ ?_ <;> intro hb <;> first | (simp (disch := omega) only [go_sem] at hb; done) | (simp (disch := omega) only [go_sem] at hb; try omega) | try omega)
      | (refine Zl ?_; intro bn hnil; (try simp (disch := omega) only [go_sem] at hnil); dsimp only [putT, List.set_cons_succ, List.set_cons_zero])
    exact Zr

theorem fnew_ok (o g n : Int) : PCall Try.prog 38 [.int .i64 o, .int .i64 g, .int .i64 n] (· = shapeV (fnew o g n)) := by
  have c1 := shape_ok zeroF o g n ⟨by simp [zeroF], by simp [zeroF]⟩
  rw [show shape zeroF o g n = fnew o g n from rfl] at c1
  simp only [shapeV] at c1
  generalize fnew o g n = R at *
  obtain ⟨F, e⟩ := R
  simp only [] at c1 ⊢
  refine PCall_intro (c := Try.f38.body.getD .skip) Try.func38 rfl (by decide +kernel) Zf (W_start ?_)
  simp only [Try.f38, go_sem]
  repeat' first
    | refine Z0 ?_
    | refine Zx ?_
    | refine Zu c1 ?_
    | (refine Ze ?_; clear hK K)
    | refine W_reg fun K hK => ?_
    | refine W_drwR rfl mixed (by decide +kernel) fun K hK => ?_
    | refine W_drw mixed (by decide +kernel) fun K hK => ?_
    | (refine Zb ?_ ?_ <;> intro hb <;> first | (simp (disch := omega) only [go_sem] at hb; done) | (simp (disch := omega) only [go_sem] at hb; try omega) | try omega)
    | (refine Zl ?_; intro bn hnil; (try simp (disch := omega) only [go_sem] at hnil); dsimp only [putT, List.set_cons_succ, List.set_cons_zero])
  exact Zr

theorem shut_ok (f : TFair) (hf : okF 1000 1000 f) : PCall Try.prog 41 [.agg (Enc.enc f)] (· = .agg (Enc.enc (shut f))) := by
  have c1 := fcopied_ok f hf
  have c2 := ftrim_ok ⟨f.r, f.guess, f.length, 0, f.lanes⟩ hf
  have hn := hf.1
  refine PCall_intro (c := Try.f41.body.getD .skip) Try.func41 rfl (by decide +kernel) Zf (W_start ?_)
  simp only [Try.f41, go_sem]
  rw [show shut f = ftrim ⟨f.r, f.guess, f.length, 0, f.lanes⟩ from rfl]
  repeat' first
    | refine Z0 ?_
    | refine Zx ?_
    | refine Zw c1 ?_
    | (refine Ze ?_; clear hK K)
    | refine W_regNe 3 (by decide) fun K hK => ?_
    | refine W_drwRNe 3 (by decide) rfl mixed (by decide +kernel) fun K hK => ?_
    | refine W_drwNe 3 (by decide) mixed (by decide +kernel) fun K hK => ?_
    | (refine Zb ?_ ?_ <;> intro hb <;> first | (simp (disch := omega) only [go_sem] at hb; done) | (simp (disch := omega) only [go_sem] at hb; try omega) | try omega)
    | (refine Zl ?_; intro bn hnil; (try simp (disch := omega) only [go_sem] at hnil); dsimp only [putT, List.set_cons_succ, List.set_cons_zero])
  (apply W_frzI 3 (f.lanes) (f.lanes.length); (case hl => simp only [go_sem]; exact rfl); (case e => first | rfl | (simp; done) | (simp [rws, Enc.enc]; done)); (case hn => first | rfl | (simp; done) | omega); (case e1 => exact subT); (case e2 => exact subU))
  repeat' first
    | refine Z0 ?_
    | refine Zx ?_
    | refine Zc c2 ?_
    | (refine Ze ?_; clear hK K)
    | refine W_reg fun K hK => ?_
    | refine W_drwR rfl mixed (by decide +kernel) fun K hK => ?_
    | refine W_drw mixed (by decide +kernel) fun K hK => ?_
    | (refine Zb ?_ ?_ <;> intro hb <;> first | (simp (disch := omega) only [go_sem] at hb; done) | (simp (disch := omega) only [go_sem] at hb; try omega) | try omega)
    | (refine Zl ?_; intro bn hnil; (try simp (disch := omega) only [go_sem] at hnil); dsimp only [putT, List.set_cons_succ, List.set_cons_zero])
  exact Zr

end Go.Proofs.Ytdgjelfeclgolaa
