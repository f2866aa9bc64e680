/-
  Lanes that take turns: the program's copies, its trimming, what is chosen, and what is counted; walked.
-/
import Derived.Test.YtdgjelfeclgolaaM22
import Derived.Test.YtdgjelfeclgolaaAME
namespace Go.Proofs.Ytdgjelfeclgolaa
open Go Go.AM
set_option maxHeartbeats 4000000
set_option linter.unusedSimpArgs false
set_option linter.unusedVariables false

theorem cloneL_ok (b : List TLane) (hl : b.length ≤ 4294967296) : PNew Try.prog 117 [.sl (rws b) none] (fun j => .ref j b.length 0 b.length false b.length) (.arr 2 (rws b)) := by
  refine PNew_body (c := Try.f117.body.getD .skip) Try.func117 rfl (by decide +kernel) Zf (.ref _ _ _ _ _) (rws_mem _) (W_start ?_)
  simp only [Try.f117, go_sem]
  repeat' first
    | refine Z0 ?_
    | refine Zx ?_
    | (refine Ze ?_; clear hK K)
    | refine W_reg fun K hK => ?_
    | refine W_drwR rfl mixed (by decide +kernel) fun K hK => ?_
    | refine W_drw mixed (by decide +kernel) fun K hK => ?_
    | (refine Zb ?_ ?_ <;> intro hb <;> first | (simp (disch := omega) only [go_sem] at hb; done) | (simp (disch := omega) only [go_sem] at hb; try omega) | try omega)
    | (refine Zl ?_; intro bn hnil; (try simp (disch := omega) only [go_sem] at hnil); dsimp only [putT, List.set_cons_succ, List.set_cons_zero])
  · obtain rfl : b = [] := by
      rcases hnil with h | h
      · exact List.length_eq_zero_iff.1 h
      · rw [hb] at h; cases h
    (apply retU_nil 2 2; (case ht => exact rfl); (case e => exact sT); (case h => simp (disch := omega) only [go_sem]; exact rfl); (case h2 => exact rfl); (case h3 => first | (simp only [go_sem]; done) | (simp only [go_sem]; exact rfl)))
  · exact Zrw

theorem cloneP_ok (b : List TTicket) (hl : b.length ≤ 4294967296) : PCall Try.prog 90 [.sl (rws b) none] (· = .sl (rws b) none) := by
  refine PCall_intro (c := Try.f90.body.getD .skip) Try.func90 rfl (by decide +kernel) Zf (W_start ?_)
  simp only [Try.f90, go_sem]
  repeat' first
    | refine Z0 ?_
    | refine Zx ?_
    | (refine Ze ?_; clear hK K)
    | refine W_reg fun K hK => ?_
    | refine W_drwR rfl mixed (by decide +kernel) fun K hK => ?_
    | refine W_drw mixed (by decide +kernel) fun K hK => ?_
    | (refine Zb ?_ ?_ <;> intro hb <;> first | (simp (disch := omega) only [go_sem] at hb; done) | (simp (disch := omega) only [go_sem] at hb; try omega) | try omega)
    | (refine Zl ?_; intro bn hnil; (try simp (disch := omega) only [go_sem] at hnil); dsimp only [putT, List.set_cons_succ, List.set_cons_zero])
  · obtain rfl : b = [] := by
      rcases hnil with h | h
      · exact List.length_eq_zero_iff.1 h
      · rw [hb] at h; cases h
    exact Zr
  · exact Zr

theorem fair1 (r g n o : Int) (k : Nat) : Nat1 fun j => .agg [.int .u64 r, .int .i64 g, .int .i64 n, .int .i64 o, .ref j k 0 k false k] := by
  refine Nat1.agg [fun _ => .int .u64 r, fun _ => .int .i64 g, fun _ => .int .i64 n, fun _ => .int .i64 o, fun j => .ref j k 0 k false k] fun c hc => ?_
  simp only [List.mem_cons, List.not_mem_nil, or_false] at hc
  rcases hc with rfl | rfl | rfl | rfl | rfl
  · exact .const _ (.int _ _)
  · exact .const _ (.int _ _)
  · exact .const _ (.int _ _)
  · exact .const _ (.int _ _)
  · exact .ref _ _ _ _ _

theorem set_same {L : List TLane} {i : Nat} {x : TLane} (h : L[i]? = some x) : (rws L).set i [.int .u64 x.start, .sl (rws x.wait) none] = rws L := by
  rw [← enc_TLane, rws_set]
  congr 1
  refine List.ext_getElem? fun k => ?_
  rw [List.getElem?_set]
  split
  · rename_i e
    subst e
    rw [if_pos (List.getElem?_eq_some_iff.1 h).1, h]
  · rfl

theorem set_row (L : List TLane) (i : Nat) (J : TLane) : (rws L).set i [.int .u64 J.start, .sl (rws J.wait) none] = rws (L.set i J) := by rw [← enc_TLane, rws_set]

theorem fcopied_ok (f : TFair) (hf : okF 1000 1000 f) : PNew Try.prog 100 [.agg (Enc.enc f)] (fun j => .agg [.int .u64 f.r, .int .i64 f.guess, .int .i64 f.length, .int .i64 f.open_, .ref j f.lanes.length 0 f.lanes.length false f.lanes.length]) (.arr 2 (rws f.lanes)) := by
  have hn := hf.1
  have c1 := cloneL_ok f.lanes (by omega)
  refine PNew_body (c := Try.f100.body.getD .skip) Try.func100 rfl (by decide +kernel) Zf (fair1 _ _ _ _ _) (rws_mem _) (W_start ?_)
  simp only [Try.f100, go_sem]
  repeat' first
    | refine Z0 ?_
    | refine Zx ?_
    | refine Zw c1 ?_
    | (refine Ze ?_; clear hK K)
    | refine W_reg fun K hK => ?_
    | refine W_drwR rfl mixed (by decide +kernel) fun K hK => ?_
    | refine W_drw mixed (by decide +kernel) fun K hK => ?_
    | (refine Zb ?_ ?_ <;> intro hb <;> first | (simp (disch := omega) only [go_sem] at hb; done) | (simp (disch := omega) only [go_sem] at hb; try omega) | try omega)
    | (refine Zl ?_; intro bn hnil; (try simp (disch := omega) only [go_sem] at hnil); dsimp only [putT, List.set_cons_succ, List.set_cons_zero])
  refine W_foldK (fun (i : Nat) => [none, none, none, some .junk, none, none, none, none, none, none, none, some (.int .i64 i), some .junk, some .junk, some .junk, some .junk, some .junk, some .junk, some .junk, some .junk, some .junk, some .junk, some .junk, some .junk, some .junk, some .junk, some .junk]) (fun i => i ≤ f.lanes.length) (fun i => f.lanes.length - i) 0 (by omega) (by exact weak_mk wkD wkH wkN wkM (by omega)) ?_
  rintro i hi
  simp only [msk_none, msk_some, msk_nil]
  rcases Nat.lt_or_ge i f.lanes.length with h4 | h4
  · obtain ⟨x, hx⟩ := some_of_lt h4
    have c2 := cloneP_ok x.wait (Nat.le_trans (hf.2 x (List.mem_of_getElem? hx)).2 (by omega))
    have e1 := set_same hx
    have zz1 := rws_get hx
    have zz2 := e1
    repeat' first
      | refine Z2 ?_
      | refine Zx ?_
      | refine Zc c2 ?_
      | (refine Ze ?_; clear hK K)
      | refine W_reg fun K hK => ?_
      | refine W_drwR rfl mixed (by decide +kernel) fun K hK => ?_
      | refine W_drw mixed (by decide +kernel) fun K hK => ?_
      | (refine Zb ?_ ?_ <;> intro hb <;> first | (simp (disch := omega) only [go_sem, zz1, zz2] at hb; done) | (simp (disch := omega) only [go_sem, zz1, zz2] at hb; try omega) | try omega)
      | (refine Zl ?_; intro bn hnil; (try simp (disch := omega) only [go_sem, zz1, zz2] at hnil); dsimp only [putT, List.set_cons_succ, List.set_cons_zero])
    exact L_next ⟨i + 1, by omega, by omega, (by exact weak_mk wkD wkH wkN wkM (by omega))⟩
  · obtain rfl : i = f.lanes.length := by omega
    repeat' first
      | refine Z0 ?_
      | refine Zx ?_
      | (refine Ze ?_; clear hK K)
      | refine W_reg fun K hK => ?_
      | refine W_drwR rfl mixed (by decide +kernel) fun K hK => ?_
      | refine W_drw mixed (by decide +kernel) fun K hK => ?_
      | (refine Zb ?_ ?_ <;> intro hb <;> first | (simp (disch := omega) only [go_sem] at hb; done) | (simp (disch := omega) only [go_sem] at hb; try omega) | try omega)
      | (refine Zl ?_; intro bn hnil; (try simp (disch := omega) only [go_sem] at hnil); dsimp only [putT, List.set_cons_succ, List.set_cons_zero])
    exact Zrw

theorem getD_of {L : List TLane} {k : Nat} {l : TLane} (h : L[k]? = some l) : L.getD k zeroL = l := by rw [List.getD_eq_getElem?_getD, h]; rfl

theorem ftrim_ok (f : TFair) (hf : okF 1000 1000 f) : PCall Try.prog 101 [.agg (Enc.enc f)] (· = .agg (Enc.enc (ftrim f))) := by
  have hn := hf.1
  refine PCall_intro (c := Try.f101.body.getD .skip) Try.func101 rfl (by decide +kernel) Zf (W_start ?_)
  simp only [Try.f101, go_sem]
  repeat' first
    | refine Z0 ?_
    | refine Zx ?_
    | (refine Ze ?_; clear hK K)
    | refine W_reg fun K hK => ?_
    | refine W_drwR rfl mixed (by decide +kernel) fun K hK => ?_
    | refine W_drw mixed (by decide +kernel) fun K hK => ?_
    | (refine Zb ?_ ?_ <;> intro hb <;> first | (simp (disch := omega) only [go_sem] at hb; done) | (simp (disch := omega) only [go_sem] at hb; try omega) | try omega)
    | (refine Zl ?_; intro bn hnil; (try simp (disch := omega) only [go_sem] at hnil); dsimp only [putT, List.set_cons_succ, List.set_cons_zero])
  refine W_foldK (fun (n : Nat) => [none, none, none, some (.int .i64 n), none, none, none, some .junk, some .junk, some .junk, some .junk, some .junk, some .junk, some .junk, some .junk, some .junk, some .junk, some .junk, some .junk, some .junk, some .junk, some .junk, some .junk, some .junk, some .junk]) (fun n => n ≤ f.lanes.length ∧ trimN f.open_ f.lanes f.lanes.length = trimN f.open_ f.lanes n) (fun n => n) f.lanes.length ⟨by omega, rfl⟩ (by exact weak_mk wkD wkH wkN wkM (by omega)) ?_
  rintro n ⟨h1, h2⟩
  simp only [msk_none, msk_some, msk_nil]
  rcases n with _ | n
  · have e1 : ftrim f = ⟨f.r, f.guess, f.length, f.open_, []⟩ := by rw [ftrim, h2, trimN, List.take_zero]
    rw [e1]
    repeat' first
      | refine Z0 ?_
      | refine Zx ?_
      | (refine Ze ?_; clear hK K)
      | refine W_reg fun K hK => ?_
      | refine W_drwR rfl mixed (by decide +kernel) fun K hK => ?_
      | refine W_drw mixed (by decide +kernel) fun K hK => ?_
      | (refine Zb ?_ ?_ <;> intro hb <;> first | (simp (disch := omega) only [go_sem] at hb; done) | (simp (disch := omega) only [go_sem] at hb; try omega) | try omega)
      | (refine Zl ?_; intro bn hnil; (try simp (disch := omega) only [go_sem] at hnil); dsimp only [putT, List.set_cons_succ, List.set_cons_zero])
    exact Zr
  · obtain ⟨x, hx⟩ := some_of_lt (l := f.lanes) (i := n) (by omega)
    rw [trimN, getD_of hx] at h2
    have t1 : (((n + 1 : Nat) : Int) - 1).toNat = n := by omega
    by_cases hc : max f.open_ 0 < (n : Int) + 1 ∧ x.wait.length = 0
    · rw [if_pos hc] at h2
      obtain ⟨h3, h4⟩ := hc
      have zz1 := rws_get hx
      have zz2 := t1
      repeat' first
        | refine Z2 ?_
        | refine Zx ?_
        | (refine Ze ?_; clear hK K)
        | refine W_reg fun K hK => ?_
        | refine W_drwR rfl mixed (by decide +kernel) fun K hK => ?_
        | refine W_drw mixed (by decide +kernel) fun K hK => ?_
        | (refine Zb ?_ ?_ <;> intro hb <;> first | (simp (disch := omega) only [go_sem, zz1, zz2] at hb; done) | (simp (disch := omega) only [go_sem, zz1, zz2] at hb; try omega) | try omega)
        | (refine Zl ?_; intro bn hnil; (try simp (disch := omega) only [go_sem, zz1, zz2] at hnil); dsimp only [putT, List.set_cons_succ, List.set_cons_zero])
      exact L_next ⟨n, by omega, ⟨by omega, h2⟩, (by simp only [show ((n + 1 : Nat) : Int) - 1 = n by omega]; exact (by exact weak_mk wkD wkH wkN wkM (by omega)))⟩
    · rw [if_neg hc] at h2
      have e1 : ftrim f = ⟨f.r, f.guess, f.length, f.open_, f.lanes.take (n + 1)⟩ := by rw [ftrim, h2]
      have e2 : List.take (n + 1) (rws f.lanes) = rws (f.lanes.take (n + 1)) := rws_take _ _
      rw [e1]
      have zz1 := rws_get hx
      have zz2 := t1
      have zz3 := e2
      repeat' first
        | refine Z3 ?_
        | refine Zx ?_
        | (refine Ze ?_; clear hK K)
        | refine W_reg fun K hK => ?_
        | refine W_drwR rfl mixed (by decide +kernel) fun K hK => ?_
        | refine W_drw mixed (by decide +kernel) fun K hK => ?_
        | (refine Zb ?_ ?_ <;> intro hb <;> first | (simp (disch := omega) only [go_sem, zz1, zz2, zz3] at hb; done) | (simp (disch := omega) only [go_sem, zz1, zz2, zz3] at hb; try omega) | try omega)
        | (refine Zl ?_; intro bn hnil; (try simp (disch := omega) only [go_sem, zz1, zz2, zz3] at hnil); dsimp only [putT, List.set_cons_succ, List.set_cons_zero])
      all_goals exact Zr

theorem choose_ok (f : TFair) (hand : List Int) (hf : okF 1000 1000 f) (hh : hand.length ≤ maxLen) : PCall Try.prog 40 [.agg (Enc.enc f), .sl (rws hand) none] (· = .int .i64 (choose f hand)) := by
  have hn := hf.1
  unfold maxLen at hh
  refine PCall_intro (c := Try.f40.body.getD .skip) Try.func40 rfl (by decide +kernel) Zf (W_start ?_)
  simp only [Try.f40, go_sem]
  repeat' first
    | refine Z0 ?_
    | refine Zx ?_
    | (refine Ze ?_; clear hK K)
    | refine W_reg fun K hK => ?_
    | refine W_drwR rfl mixed (by decide +kernel) fun K hK => ?_
    | refine W_drw mixed (by decide +kernel) fun K hK => ?_
    | (refine Zb ?_ ?_ <;> intro hb <;> first | (simp (disch := omega) only [go_sem] at hb; done) | (simp (disch := omega) only [go_sem] at hb; try omega) | try omega)
    | (refine Zl ?_; intro bn hnil; (try simp (disch := omega) only [go_sem] at hnil); dsimp only [putT, List.set_cons_succ, List.set_cons_zero])
  refine W_foldK (fun (a : Nat × Int × Int) => [none, none, none, none, none, some (.int .i64 a.2.1), some (.int .i64 a.2.2), none, some .junk, some .junk, none, none, some (.int .i64 a.1), some .junk, some .junk, some .junk, some .junk, some .junk, some .junk, some .junk, some .junk, some .junk, some .junk, some .junk, some .junk, some .junk, some .junk, some .junk, some .junk, some .junk, some .junk, some .junk, some .junk, some .junk, some .junk, some .junk, some .junk, some .junk, some .junk, some .junk, some .junk, some .junk, some .junk, some .junk, some .junk, some .junk, some .junk]) (fun a => a.1 ≤ hand.length ∧ a.2.1 = pick (okHand f) (fun k => seats (laneAt f k)) (hand.take a.1) ∧ (0 ≤ a.2.1 → a.2.2 = seats (laneAt f a.2.1))) (fun a => hand.length - a.1) (0, -1, 0) ⟨by simp, rfl, by simp⟩ (by exact weak_mk wkD wkH wkN wkM (by omega)) ?_
  rintro ⟨i, b, s⟩ ⟨h1, h2, h3⟩
  simp only [] at h1 h2 h3
  simp only [msk_none, msk_some, msk_nil]
  rcases Nat.lt_or_ge i hand.length with h4 | h4
  · obtain ⟨k, hk⟩ := some_of_lt h4
    have e1 := pick_snoc (s := fun k => seats (laneAt f k)) (okHand_ge f) (hand.take i) k
    rw [← take_snoc hk, ← h2] at e1
    by_cases ho : 0 ≤ k ∧ k < f.open_ ∧ k < f.lanes.length
    · obtain ⟨h5, h6, h7⟩ := ho
      have o1 : okHand f k = true := decide_eq_true ⟨h5, h6, h7⟩
      have hx := laneAt_get h5 h7
      have c1 := seats_ok (laneAt f k) (Nat.le_trans (hf.at k).2 (by omega))
      simp only [o1, true_and] at e1
      have e0 : (b < 0 ∨ seats (laneAt f k) < seats (laneAt f b)) ↔ (b < 0 ∨ seats (laneAt f k) < s) := by
        rcases Int.lt_or_le b 0 with h8 | h8
        · simp [h8]
        · rw [h3 h8]
      by_cases hb : b < 0 ∨ seats (laneAt f k) < s
      · rw [if_pos (e0.2 hb)] at e1
        have zz1 := rws_get hk
        have zz2 := rws_get hx
        repeat' first
          | refine Z2 ?_
          | refine Zx ?_
          | refine Zc c1 ?_
          | (refine Ze ?_; clear hK K)
          | refine W_reg fun K hK => ?_
          | refine W_drwR rfl mixed (by decide +kernel) fun K hK => ?_
          | refine W_drw mixed (by decide +kernel) fun K hK => ?_
          | (refine Zb ?_ ?_ <;> intro hb <;> first | (simp (disch := omega) only [go_sem, zz1, zz2] at hb; done) | (simp (disch := omega) only [go_sem, zz1, zz2] at hb; try omega) | try omega)
          | (refine Zl ?_; intro bn hnil; (try simp (disch := omega) only [go_sem, zz1, zz2] at hnil); dsimp only [putT, List.set_cons_succ, List.set_cons_zero])
        all_goals exact L_next ⟨(i + 1, k, seats (laneAt f k)), by simp; omega, ⟨by simp; omega, e1.symm, fun _ => rfl⟩, (by exact weak_mk wkD wkH wkN wkM (by omega))⟩
      · rw [if_neg (fun e => hb (e0.1 e))] at e1
        have zz1 := rws_get hk
        have zz2 := rws_get hx
        repeat' first
          | refine Z2 ?_
          | refine Zx ?_
          | refine Zc c1 ?_
          | (refine Ze ?_; clear hK K)
          | refine W_reg fun K hK => ?_
          | refine W_drwR rfl mixed (by decide +kernel) fun K hK => ?_
          | refine W_drw mixed (by decide +kernel) fun K hK => ?_
          | (refine Zb ?_ ?_ <;> intro hb <;> first | (simp (disch := omega) only [go_sem, zz1, zz2] at hb; done) | (simp (disch := omega) only [go_sem, zz1, zz2] at hb; try omega) | try omega)
          | (refine Zl ?_; intro bn hnil; (try simp (disch := omega) only [go_sem, zz1, zz2] at hnil); dsimp only [putT, List.set_cons_succ, List.set_cons_zero])
        all_goals exact L_next ⟨(i + 1, b, s), by simp; omega, ⟨by simp; omega, e1.symm, h3⟩, (by exact weak_mk wkD wkH wkN wkM (by omega))⟩
    · have o1 : okHand f k = false := decide_eq_false ho
      simp only [o1, Bool.false_eq_true, false_and, if_false] at e1
      have zz1 := rws_get hk
      repeat' first
        | refine Z1 ?_
        | refine Zx ?_
        | (refine Ze ?_; clear hK K)
        | refine W_reg fun K hK => ?_
        | refine W_drwR rfl mixed (by decide +kernel) fun K hK => ?_
        | refine W_drw mixed (by decide +kernel) fun K hK => ?_
        | (refine Zb ?_ ?_ <;> intro hb <;> first | (simp (disch := omega) only [go_sem, zz1] at hb; done) | (simp (disch := omega) only [go_sem, zz1] at hb; try omega) | try omega)
        | (refine Zl ?_; intro bn hnil; (try simp (disch := omega) only [go_sem, zz1] at hnil); dsimp only [putT, List.set_cons_succ, List.set_cons_zero])
      all_goals exact L_next ⟨(i + 1, b, s), by simp; omega, ⟨by simp; omega, e1.symm, h3⟩, (by exact weak_mk wkD wkH wkN wkM (by omega))⟩
  · obtain rfl : i = hand.length := by omega
    rw [List.take_length] at h2
    have e1 : choose f hand = b := h2.symm
    rw [e1]
    repeat' first
      | refine Z0 ?_
      | refine Zx ?_
      | (refine Ze ?_; clear hK K)
      | refine W_reg fun K hK => ?_
      | refine W_drwR rfl mixed (by decide +kernel) fun K hK => ?_
      | refine W_drw mixed (by decide +kernel) fun K hK => ?_
      | (refine Zb ?_ ?_ <;> intro hb <;> first | (simp (disch := omega) only [go_sem] at hb; done) | (simp (disch := omega) only [go_sem] at hb; try omega) | try omega)
      | (refine Zl ?_; intro bn hnil; (try simp (disch := omega) only [go_sem] at hnil); dsimp only [putT, List.set_cons_succ, List.set_cons_zero])
    exact Zr

theorem waiting_take (m : Nat) (L : List TLane) (h : ∀ l, l ∈ L → l.wait.length ≤ m) (i : Nat) : 0 ≤ ((L.take i).map fun l => (l.wait.length : Int)).sum ∧ ((L.take i).map fun l => (l.wait.length : Int)).sum ≤ m * i := by
  induction i with
  | zero => simp
  | succ i ih =>
    rcases Nat.lt_or_ge i L.length with h1 | h1
    · obtain ⟨x, hx⟩ := some_of_lt h1
      rw [sum_take hx]
      have := h x (List.mem_of_getElem? hx)
      rw [Int.natCast_succ, Int.mul_add]
      omega
    · rw [List.take_of_length_le (by omega)]
      rw [List.take_of_length_le h1] at ih
      rw [Int.natCast_succ, Int.mul_add]
      omega

theorem waiting_ok (f : TFair) (hf : okF 1000 1000 f) : PCall Try.prog 42 [.agg (Enc.enc f)] (· = .int .i64 (waiting f)) := by
  have hn := hf.1
  refine PCall_intro (c := Try.f42.body.getD .skip) Try.func42 rfl (by decide +kernel) Zf (W_start ?_)
  simp only [Try.f42, go_sem]
  repeat' first
    | refine Z0 ?_
    | refine Zx ?_
    | (refine Ze ?_; clear hK K)
    | refine W_reg fun K hK => ?_
    | refine W_drwR rfl mixed (by decide +kernel) fun K hK => ?_
    | refine W_drw mixed (by decide +kernel) fun K hK => ?_
    | (refine Zb ?_ ?_ <;> intro hb <;> first | (simp (disch := omega) only [go_sem] at hb; done) | (simp (disch := omega) only [go_sem] at hb; try omega) | try omega)
    | (refine Zl ?_; intro bn hnil; (try simp (disch := omega) only [go_sem] at hnil); dsimp only [putT, List.set_cons_succ, List.set_cons_zero])
  refine W_foldK (fun (a : Nat × Int) => [none, none, none, some (.int .i64 a.2), none, some .junk, none, none, none, some (.int .i64 a.1), some .junk, some .junk, some .junk, some .junk, some .junk, some .junk, some .junk, some .junk, some .junk]) (fun a => a.1 ≤ f.lanes.length ∧ a.2 = ((f.lanes.take a.1).map fun l => (l.wait.length : Int)).sum) (fun a => f.lanes.length - a.1) (0, 0) ⟨by simp, by simp⟩ (by exact weak_mk wkD wkH wkN wkM (by omega)) ?_
  rintro ⟨i, n⟩ ⟨hi, hs⟩
  simp only [] at hi hs
  simp only [msk_none, msk_some, msk_nil]
  have hb := waiting_take 1000 f.lanes (fun l hl => (hf.2 l hl).2) i
  rw [← hs] at hb
  rcases Nat.lt_or_ge i f.lanes.length with h4 | h4
  · obtain ⟨x, hx⟩ := some_of_lt h4
    have e1 := sum_take (f := fun l : TLane => (l.wait.length : Int)) hx
    rw [← hs] at e1
    have b1 := (hf.2 x (List.mem_of_getElem? hx)).2
    have zz1 := rws_get hx
    repeat' first
      | refine Z1 ?_
      | refine Zx ?_
      | (refine Ze ?_; clear hK K)
      | refine W_reg fun K hK => ?_
      | refine W_drwR rfl mixed (by decide +kernel) fun K hK => ?_
      | refine W_drw mixed (by decide +kernel) fun K hK => ?_
      | (refine Zb ?_ ?_ <;> intro hb <;> first | (simp (disch := omega) only [go_sem, zz1] at hb; done) | (simp (disch := omega) only [go_sem, zz1] at hb; try omega) | try omega)
      | (refine Zl ?_; intro bn hnil; (try simp (disch := omega) only [go_sem, zz1] at hnil); dsimp only [putT, List.set_cons_succ, List.set_cons_zero])
    exact L_next ⟨(i + 1, n + x.wait.length), by simp; omega, ⟨by simp; omega, e1.symm⟩, (by exact weak_mk wkD wkH wkN wkM (by omega))⟩
  · obtain rfl : i = f.lanes.length := by omega
    rw [List.take_length] at hs
    have e1 : waiting f = n := hs.symm
    rw [e1]
    repeat' first
      | refine Z0 ?_
      | refine Zx ?_
      | (refine Ze ?_; clear hK K)
      | refine W_reg fun K hK => ?_
      | refine W_drwR rfl mixed (by decide +kernel) fun K hK => ?_
      | refine W_drw mixed (by decide +kernel) fun K hK => ?_
      | (refine Zb ?_ ?_ <;> intro hb <;> first | (simp (disch := omega) only [go_sem] at hb; done) | (simp (disch := omega) only [go_sem] at hb; try omega) | try omega)
      | (refine Zl ?_; intro bn hnil; (try simp (disch := omega) only [go_sem] at hnil); dsimp only [putT, List.set_cons_succ, List.set_cons_zero])
    exact Zr

theorem seats_le (l : TLane) (m : Nat) (h : l.wait.length ≤ m) : 0 ≤ seats l ∧ seats l ≤ 16 * m := by
  have := seats_take l.wait l.wait.length
  rw [List.take_length] at this
  unfold seats
  omega

theorem fseats_take (m : Nat) (L : List TLane) (h : ∀ l, l ∈ L → l.wait.length ≤ m) (i : Nat) : 0 ≤ ((L.take i).map seats).sum ∧ ((L.take i).map seats).sum ≤ 16 * m * i := by
  induction i with
  | zero => simp
  | succ i ih =>
    rcases Nat.lt_or_ge i L.length with h1 | h1
    · obtain ⟨x, hx⟩ := some_of_lt h1
      rw [sum_take hx]
      have := seats_le x m (h x (List.mem_of_getElem? hx))
      rw [Int.natCast_succ, Int.mul_add]
      omega
    · rw [List.take_of_length_le (by omega)]
      rw [List.take_of_length_le h1] at ih
      rw [Int.natCast_succ, Int.mul_add]
      omega

theorem fseats_ok (f : TFair) (hf : okF 1000 1000 f) : PCall Try.prog 43 [.agg (Enc.enc f)] (· = .int .i64 (fseats f)) := by
  have hn := hf.1
  refine PCall_intro (c := Try.f43.body.getD .skip) Try.func43 rfl (by decide +kernel) Zf (W_start ?_)
  simp only [Try.f43, go_sem]
  repeat' first
    | refine Z0 ?_
    | refine Zx ?_
    | (refine Ze ?_; clear hK K)
    | refine W_reg fun K hK => ?_
    | refine W_drwR rfl mixed (by decide +kernel) fun K hK => ?_
    | refine W_drw mixed (by decide +kernel) fun K hK => ?_
    | (refine Zb ?_ ?_ <;> intro hb <;> first | (simp (disch := omega) only [go_sem] at hb; done) | (simp (disch := omega) only [go_sem] at hb; try omega) | try omega)
    | (refine Zl ?_; intro bn hnil; (try simp (disch := omega) only [go_sem] at hnil); dsimp only [putT, List.set_cons_succ, List.set_cons_zero])
  refine W_foldK (fun (a : Nat × Int) => [none, none, none, some (.int .i64 a.2), none, some .junk, none, none, none, some (.int .i64 a.1), some .junk, some .junk, some .junk, some .junk, some .junk, some .junk, some .junk, some .junk]) (fun a => a.1 ≤ f.lanes.length ∧ a.2 = ((f.lanes.take a.1).map seats).sum) (fun a => f.lanes.length - a.1) (0, 0) ⟨by simp, by simp⟩ (by exact weak_mk wkD wkH wkN wkM (by omega)) ?_
  rintro ⟨i, n⟩ ⟨hi, hs⟩
  simp only [] at hi hs
  simp only [msk_none, msk_some, msk_nil]
  have hb := fseats_take 1000 f.lanes (fun l hl => (hf.2 l hl).2) i
  rw [← hs] at hb
  rcases Nat.lt_or_ge i f.lanes.length with h4 | h4
  · obtain ⟨x, hx⟩ := some_of_lt h4
    have e1 := sum_take (f := seats) hx
    rw [← hs] at e1
    have b1 := (hf.2 x (List.mem_of_getElem? hx)).2
    have b2 := seats_le x 1000 b1
    have c1 := seats_ok x (by omega)
    have zz1 := rws_get hx
    repeat' first
      | refine Z1 ?_
      | refine Zx ?_
      | refine Zc c1 ?_
      | (refine Ze ?_; clear hK K)
      | refine W_reg fun K hK => ?_
      | refine W_drwR rfl mixed (by decide +kernel) fun K hK => ?_
      | refine W_drw mixed (by decide +kernel) fun K hK => ?_
      | (refine Zb ?_ ?_ <;> intro hb <;> first | (simp (disch := omega) only [go_sem, zz1] at hb; done) | (simp (disch := omega) only [go_sem, zz1] at hb; try omega) | try omega)
      | (refine Zl ?_; intro bn hnil; (try simp (disch := omega) only [go_sem, zz1] at hnil); dsimp only [putT, List.set_cons_succ, List.set_cons_zero])
    exact L_next ⟨(i + 1, n + seats x), by simp; omega, ⟨by simp; omega, e1.symm⟩, (by exact weak_mk wkD wkH wkN wkM (by omega))⟩
  · obtain rfl : i = f.lanes.length := by omega
    rw [List.take_length] at hs
    have e1 : fseats f = n := hs.symm
    rw [e1]
    repeat' first
      | refine Z0 ?_
      | refine Zx ?_
      | (refine Ze ?_; clear hK K)
      | refine W_reg fun K hK => ?_
      | refine W_drwR rfl mixed (by decide +kernel) fun K hK => ?_
      | refine W_drw mixed (by decide +kernel) fun K hK => ?_
      | (refine Zb ?_ ?_ <;> intro hb <;> first | (simp (disch := omega) only [go_sem] at hb; done) | (simp (disch := omega) only [go_sem] at hb; try omega) | try omega)
      | (refine Zl ?_; intro bn hnil; (try simp (disch := omega) only [go_sem] at hnil); dsimp only [putT, List.set_cons_succ, List.set_cons_zero])
    exact Zr

end Go.Proofs.Ytdgjelfeclgolaa
