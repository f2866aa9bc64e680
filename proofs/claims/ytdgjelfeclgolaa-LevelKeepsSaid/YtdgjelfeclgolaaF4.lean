/-
  The reference's lanes: numbers, copies, joins; walked.
-/
import Derived.Test.YtdgjelfeclgolaaF3
namespace Go.Proofs.Ytdgjelfeclgolaa
open Go Go.AM
set_option maxHeartbeats 4000000
set_option linter.unusedSimpArgs false
set_option linter.unusedVariables false

theorem rin_ok (a : Int) : PCall Try.prog 116 [.int .u64 a] (· = .int .u64 (min a 4611686018427387904)) := by
  refine PCall_intro (c := Try.f116.body.getD .skip) Try.func116 rfl (by decide +kernel) Zf (W_start ?_)
  simp only [Try.f116, go_sem]
  by_cases h : a > 4611686018427387904
  · rw [show min a 4611686018427387904 = 4611686018427387904 by omega]
    repeat' first
      | refine Z0 ?_
      | refine Zx ?_
      | (refine Ze ?_; clear hK K)
      | refine W_reg fun K hK => ?_
      | refine W_drwR rfl mixed (by decide +kernel) fun K hK => ?_
      | refine W_drw mixed (by decide +kernel) fun K hK => ?_
      | (refine Zb ?_ ?_ <;> intro hb <;> first | (simp (disch := omega) only [go_sem] at hb; done) | (simp (disch := omega) only [go_sem] at hb; try omega) | try omega)
      | (refine Zl ?_; intro bn hnil; (try simp (disch := omega) only [go_sem] at hnil); dsimp only [putT, List.set_cons_succ, List.set_cons_zero])
    exact Zr
  · rw [show min a 4611686018427387904 = a by omega]
    repeat' first
      | refine Z0 ?_
      | refine Zx ?_
      | (refine Ze ?_; clear hK K)
      | refine W_reg fun K hK => ?_
      | refine W_drwR rfl mixed (by decide +kernel) fun K hK => ?_
      | refine W_drw mixed (by decide +kernel) fun K hK => ?_
      | (refine Zb ?_ ?_ <;> intro hb <;> first | (simp (disch := omega) only [go_sem] at hb; done) | (simp (disch := omega) only [go_sem] at hb; try omega) | try omega)
      | (refine Zl ?_; intro bn hnil; (try simp (disch := omega) only [go_sem] at hnil); dsimp only [putT, List.set_cons_succ, List.set_cons_zero])
    exact Zr

theorem radd_ok (a b : Int) (ha : 0 ≤ a) (hb : 0 ≤ b) : PCall Try.prog 98 [.int .u64 a, .int .u64 b] (· = .int .u64 (add a b)) := by
  have c1 := rin_ok a
  have c2 := rin_ok b
  have c3 := rin_ok (min a 4611686018427387904 + min b 4611686018427387904)
  refine PCall_intro (c := Try.f98.body.getD .skip) Try.func98 rfl (by decide +kernel) Zf (W_start ?_)
  simp only [Try.f98, go_sem]
  repeat' first
    | refine Z0 ?_
    | refine Zx ?_
    | refine Zc c1 ?_
    | refine Zc c2 ?_
    | refine Zc c3 ?_
    | (refine Ze ?_; clear hK K)
    | refine W_reg fun K hK => ?_
    | refine W_drwR rfl mixed (by decide +kernel) fun K hK => ?_
    | refine W_drw mixed (by decide +kernel) fun K hK => ?_
    | (refine Zb ?_ ?_ <;> intro hb <;> first | (simp (disch := omega) only [go_sem] at hb; done) | (simp (disch := omega) only [go_sem] at hb; try omega) | try omega)
    | (refine Zl ?_; intro bn hnil; (try simp (disch := omega) only [go_sem] at hnil); dsimp only [putT, List.set_cons_succ, List.set_cons_zero])
  exact Zr

theorem rwid_ok (n : Int) : PCall Try.prog 46 [.int .i64 n] (· = .int .i64 (wid n)) := by
  refine PCall_intro (c := Try.f46.body.getD .skip) Try.func46 rfl (by decide +kernel) Zf (W_start ?_)
  simp only [Try.f46, go_sem]
  rcases Int.lt_or_le n 1 with h | h
  · rw [show wid n = 1 by unfold wid; omega]
    repeat' first
      | refine Z0 ?_
      | refine Zx ?_
      | (refine Ze ?_; clear hK K)
      | refine W_reg fun K hK => ?_
      | refine W_drwR rfl mixed (by decide +kernel) fun K hK => ?_
      | refine W_drw mixed (by decide +kernel) fun K hK => ?_
      | (refine Zb ?_ ?_ <;> intro hb <;> first | (simp (disch := omega) only [go_sem] at hb; done) | (simp (disch := omega) only [go_sem] at hb; try omega) | try omega)
      | (refine Zl ?_; intro bn hnil; (try simp (disch := omega) only [go_sem] at hnil); dsimp only [putT, List.set_cons_succ, List.set_cons_zero])
    exact Zr
  · rcases Int.lt_or_le 16 n with h2 | h2
    · rw [show wid n = 16 by unfold wid; omega]
      repeat' first
        | refine Z0 ?_
        | refine Zx ?_
        | (refine Ze ?_; clear hK K)
        | refine W_reg fun K hK => ?_
        | refine W_drwR rfl mixed (by decide +kernel) fun K hK => ?_
        | refine W_drw mixed (by decide +kernel) fun K hK => ?_
        | (refine Zb ?_ ?_ <;> intro hb <;> first | (simp (disch := omega) only [go_sem] at hb; done) | (simp (disch := omega) only [go_sem] at hb; try omega) | try omega)
        | (refine Zl ?_; intro bn hnil; (try simp (disch := omega) only [go_sem] at hnil); dsimp only [putT, List.set_cons_succ, List.set_cons_zero])
      exact Zr
    · rw [show wid n = n by unfold wid; omega]
      repeat' first
        | refine Z0 ?_
        | refine Zx ?_
        | (refine Ze ?_; clear hK K)
        | refine W_reg fun K hK => ?_
        | refine W_drwR rfl mixed (by decide +kernel) fun K hK => ?_
        | refine W_drw mixed (by decide +kernel) fun K hK => ?_
        | (refine Zb ?_ ?_ <;> intro hb <;> first | (simp (disch := omega) only [go_sem] at hb; done) | (simp (disch := omega) only [go_sem] at hb; try omega) | try omega)
        | (refine Zl ?_; intro bn hnil; (try simp (disch := omega) only [go_sem] at hnil); dsimp only [putT, List.set_cons_succ, List.set_cons_zero])
      exact Zr

theorem rgue_ok (n : Int) : PCall Try.prog 99 [.int .i64 n] (· = .int .i64 (gue n)) := by
  refine PCall_intro (c := Try.f99.body.getD .skip) Try.func99 rfl (by decide +kernel) Zf (W_start ?_)
  simp only [Try.f99, go_sem]
  rcases Int.lt_or_le n 1 with h | h
  · rw [show gue n = 1 by unfold gue; omega]
    repeat' first
      | refine Z0 ?_
      | refine Zx ?_
      | (refine Ze ?_; clear hK K)
      | refine W_reg fun K hK => ?_
      | refine W_drwR rfl mixed (by decide +kernel) fun K hK => ?_
      | refine W_drw mixed (by decide +kernel) fun K hK => ?_
      | (refine Zb ?_ ?_ <;> intro hb <;> first | (simp (disch := omega) only [go_sem] at hb; done) | (simp (disch := omega) only [go_sem] at hb; try omega) | try omega)
      | (refine Zl ?_; intro bn hnil; (try simp (disch := omega) only [go_sem] at hnil); dsimp only [putT, List.set_cons_succ, List.set_cons_zero])
    exact Zr
  · rcases Int.lt_or_le 1000 n with h2 | h2
    · rw [show gue n = 1000 by unfold gue; omega]
      repeat' first
        | refine Z0 ?_
        | refine Zx ?_
        | (refine Ze ?_; clear hK K)
        | refine W_reg fun K hK => ?_
        | refine W_drwR rfl mixed (by decide +kernel) fun K hK => ?_
        | refine W_drw mixed (by decide +kernel) fun K hK => ?_
        | (refine Zb ?_ ?_ <;> intro hb <;> first | (simp (disch := omega) only [go_sem] at hb; done) | (simp (disch := omega) only [go_sem] at hb; try omega) | try omega)
        | (refine Zl ?_; intro bn hnil; (try simp (disch := omega) only [go_sem] at hnil); dsimp only [putT, List.set_cons_succ, List.set_cons_zero])
      exact Zr
    · rw [show gue n = n by unfold gue; omega]
      repeat' first
        | refine Z0 ?_
        | refine Zx ?_
        | (refine Ze ?_; clear hK K)
        | refine W_reg fun K hK => ?_
        | refine W_drwR rfl mixed (by decide +kernel) fun K hK => ?_
        | refine W_drw mixed (by decide +kernel) fun K hK => ?_
        | (refine Zb ?_ ?_ <;> intro hb <;> first | (simp (disch := omega) only [go_sem] at hb; done) | (simp (disch := omega) only [go_sem] at hb; try omega) | try omega)
        | (refine Zl ?_; intro bn hnil; (try simp (disch := omega) only [go_sem] at hnil); dsimp only [putT, List.set_cons_succ, List.set_cons_zero])
      exact Zr

theorem lane1 (s : Int) (n : Nat) : Nat1 fun j => .agg [.int .u64 s, .ref j n 0 n false n] := by
  refine Nat1.agg [fun _ => .int .u64 s, fun j => .ref j n 0 n false n] fun c hc => ?_
  simp only [List.mem_cons, List.not_mem_nil, or_false] at hc
  rcases hc with rfl | rfl
  · exact .const _ (.int _ _)
  · exact .ref _ _ _ _ _

theorem rcopy_ok (l : TLane) (hl : l.wait.length ≤ 4294967296) : PNew Try.prog 27 [.agg (Enc.enc l)] (fun j => .agg [.int .u64 l.start, .ref j l.wait.length 0 l.wait.length false l.wait.length]) (.arr 5 (rws l.wait)) := by
  refine PNew_body (c := Try.f27.body.getD .skip) Try.func27 rfl (by decide +kernel) Zf (lane1 _ _) (rws_mem _) (W_start ?_)
  simp only [Try.f27, go_sem]
  repeat' first
    | refine Z0 ?_
    | refine Zx ?_
    | (refine Ze ?_; clear hK K)
    | refine W_reg fun K hK => ?_
    | refine W_drwR rfl mixed (by decide +kernel) fun K hK => ?_
    | refine W_drw mixed (by decide +kernel) fun K hK => ?_
    | (refine Zb ?_ ?_ <;> intro hb <;> first | (simp (disch := omega) only [go_sem] at hb; done) | (simp (disch := omega) only [go_sem] at hb; try omega) | try omega)
    | (refine Zl ?_; intro bn hnil; (try simp (disch := omega) only [go_sem] at hnil); dsimp only [putT, List.set_cons_succ, List.set_cons_zero])
  exact Zrw

theorem rjoin_ok (l : TLane) (r : Int) (t : TTicket) (hl : l.wait.length ≤ 4294967295) : PCall Try.prog 31 [.agg (Enc.enc l), .int .u64 r, .agg (Enc.enc t)] (· = .agg (Enc.enc (join l r t))) := by
  have c1 := rcopy_ok l (by omega)
  have e1 := rws_snoc l.wait t
  simp only [enc_TTicket] at e1
  refine PCall_intro (c := Try.f31.body.getD .skip) Try.func31 rfl (by decide +kernel) Zf (W_start ?_)
  simp only [Try.f31, go_sem]
  by_cases h0 : l.wait.length = 0
  · have e0 : join l r t = ⟨max l.start r, l.wait ++ [t]⟩ := by rw [join, if_pos h0]
    rw [e0]
    by_cases h1 : r > l.start
    · rw [show max l.start r = r by omega]
      have zz1 := e1
      repeat' first
        | refine Z1 ?_
        | refine Zx ?_
        | refine Zw c1 ?_
        | (refine Ze ?_; clear hK K)
        | refine W_reg fun K hK => ?_
        | refine W_drwR rfl mixed (by decide +kernel) fun K hK => ?_
        | refine W_drw mixed (by decide +kernel) fun K hK => ?_
        | (refine Zb ?_ ?_ <;> intro hb <;> first | (simp (disch := omega) only [go_sem, zz1] at hb; done) | (simp (disch := omega) only [go_sem, zz1] at hb; try omega) | try omega)
        | (refine Zl ?_; intro bn hnil; (try simp (disch := omega) only [go_sem, zz1] at hnil); dsimp only [putT, List.set_cons_succ, List.set_cons_zero])
      exact Zr
    · rw [show max l.start r = l.start by omega]
      have zz1 := e1
      repeat' first
        | refine Z1 ?_
        | refine Zx ?_
        | refine Zw c1 ?_
        | (refine Ze ?_; clear hK K)
        | refine W_reg fun K hK => ?_
        | refine W_drwR rfl mixed (by decide +kernel) fun K hK => ?_
        | refine W_drw mixed (by decide +kernel) fun K hK => ?_
        | (refine Zb ?_ ?_ <;> intro hb <;> first | (simp (disch := omega) only [go_sem, zz1] at hb; done) | (simp (disch := omega) only [go_sem, zz1] at hb; try omega) | try omega)
        | (refine Zl ?_; intro bn hnil; (try simp (disch := omega) only [go_sem, zz1] at hnil); dsimp only [putT, List.set_cons_succ, List.set_cons_zero])
      exact Zr
  · have e0 : join l r t = ⟨l.start, l.wait ++ [t]⟩ := by rw [join, if_neg h0]
    rw [e0]
    have zz1 := e1
    repeat' first
      | refine Z1 ?_
      | refine Zx ?_
      | refine Zw c1 ?_
      | (refine Ze ?_; clear hK K)
      | refine W_reg fun K hK => ?_
      | refine W_drwR rfl mixed (by decide +kernel) fun K hK => ?_
      | refine W_drw mixed (by decide +kernel) fun K hK => ?_
      | (refine Zb ?_ ?_ <;> intro hb <;> first | (simp (disch := omega) only [go_sem, zz1] at hb; done) | (simp (disch := omega) only [go_sem, zz1] at hb; try omega) | try omega)
      | (refine Zl ?_; intro bn hnil; (try simp (disch := omega) only [go_sem, zz1] at hnil); dsimp only [putT, List.set_cons_succ, List.set_cons_zero])
    exact Zr

theorem rfin_ok (l : TLane) (g : Int) (hs : 0 ≤ l.start) (hl : l.wait.length ≤ 4294967296) : PCall Try.prog 30 [.agg (Enc.enc l), .int .i64 g] (· = .tuple [.int .u64 (fin l g).1, .bool (fin l g).2]) := by
  obtain ⟨st, w⟩ := l
  simp only [] at hs hl
  refine PCall_intro (c := Try.f30.body.getD .skip) Try.func30 rfl (by decide +kernel) Zf (W_start ?_)
  simp only [Try.f30, go_sem]
  rcases w with _ | ⟨t, w⟩
  · repeat' first
      | refine Z0 ?_
      | refine Zx ?_
      | (refine Ze ?_; clear hK K)
      | refine W_reg fun K hK => ?_
      | refine W_drwR rfl mixed (by decide +kernel) fun K hK => ?_
      | refine W_drw mixed (by decide +kernel) fun K hK => ?_
      | (refine Zb ?_ ?_ <;> intro hb <;> first | (simp (disch := omega) only [go_sem] at hb; done) | (simp (disch := omega) only [go_sem] at hb; try omega) | try omega)
      | (refine Zl ?_; intro bn hnil; (try simp (disch := omega) only [go_sem] at hnil); dsimp only [putT, List.set_cons_succ, List.set_cons_zero])
    exact Zr
  · have c1 := rwid_ok t.width
    have c3 := rgue_ok g
    have b1 := work_le t g
    have b2 := wid_le t.width
    have b3 := gue_le g
    have e0 : wid t.width * gue g = work t g := rfl
    rw [← e0] at b1
    have c2 := radd_ok st (work t g) hs (by omega)
    rw [← e0] at c2
    have h0 : (rws (t :: w))[0]? = some [.int .i64 t.iD, .int .i64 t.width, .int .i64 t.seats, .int .i64 t.since, .int .i64 t.until_] := rfl
    have h1 : (t :: w).length = w.length + 1 := rfl
    have h2 : fin ⟨st, t :: w⟩ g = (add st (wid t.width * gue g), true) := rfl
    rw [h2]
    generalize t :: w = W at *
    have zz1 := h0
    repeat' first
      | refine Z1 ?_
      | refine Zx ?_
      | refine Zc c1 ?_
      | refine Zc c2 ?_
      | refine Zc c3 ?_
      | (refine Ze ?_; clear hK K)
      | refine W_reg fun K hK => ?_
      | refine W_drwR rfl mixed (by decide +kernel) fun K hK => ?_
      | refine W_drw mixed (by decide +kernel) fun K hK => ?_
      | (refine Zb ?_ ?_ <;> intro hb <;> first | (simp (disch := omega) only [go_sem, zz1] at hb; done) | (simp (disch := omega) only [go_sem, zz1] at hb; try omega) | try omega)
      | (refine Zl ?_; intro bn hnil; (try simp (disch := omega) only [go_sem, zz1] at hnil); dsimp only [putT, List.set_cons_succ, List.set_cons_zero])
    exact Zr

theorem rtake_ok (l : TLane) (g : Int) (hs : 0 ≤ l.start) (hl : l.wait.length ≤ 4294967296) : PCall Try.prog 28 [.agg (Enc.enc l), .int .i64 g] (· = laneV (take l g)) := by
  have c1 := rfin_ok l g hs hl
  refine PCall_intro (c := Try.f28.body.getD .skip) Try.func28 rfl (by decide +kernel) Zf (W_start ?_)
  simp only [Try.f28, go_sem]
  rcases hw : l.wait with _ | ⟨t, w⟩
  · have e1 : take l g = (l, zeroT, false) := by rw [take, hw]
    have e2 : fin l g = (0, false) := by rw [fin, hw]
    rw [e1]
    rw [e2] at c1
    rw [← hw]
    repeat' first
      | refine Z0 ?_
      | refine Zx ?_
      | refine Zc c1 ?_
      | (refine Ze ?_; clear hK K)
      | refine W_reg fun K hK => ?_
      | refine W_drwR rfl mixed (by decide +kernel) fun K hK => ?_
      | refine W_drw mixed (by decide +kernel) fun K hK => ?_
      | (refine Zb ?_ ?_ <;> intro hb <;> first | (simp (disch := omega) only [go_sem] at hb; done) | (simp (disch := omega) only [go_sem] at hb; try omega) | try omega)
      | (refine Zl ?_; intro bn hnil; (try simp (disch := omega) only [go_sem] at hnil); dsimp only [putT, List.set_cons_succ, List.set_cons_zero])
    exact Zr
  · have e1 : take l g = (⟨add l.start (work t g), w⟩, t, true) := by rw [take, hw]
    have e2 : fin l g = (add l.start (work t g), true) := by rw [fin, hw]
    have h0 : (rws l.wait)[0]? = some [.int .i64 t.iD, .int .i64 t.width, .int .i64 t.seats, .int .i64 t.since, .int .i64 t.until_] := by rw [hw]; rfl
    have h1 : l.wait.length = w.length + 1 := by rw [hw]; rfl
    have h2 : List.take w.length (List.drop 1 (rws l.wait)) = rws w := by rw [hw, rws_drop, rws_take]; simp
    have h3 : w.length + 1 - 1 = w.length := by omega
    rw [e1]
    rw [e2] at c1
    rw [← hw]
    have zz1 := h0
    have zz2 := h1
    have zz3 := h2
    have zz4 := h3
    repeat' first
      | refine Z4 ?_
      | refine Zx ?_
      | refine Zc c1 ?_
      | (refine Ze ?_; clear hK K)
      | refine W_reg fun K hK => ?_
      | refine W_drwR rfl mixed (by decide +kernel) fun K hK => ?_
      | refine W_drw mixed (by decide +kernel) fun K hK => ?_
      | (refine Zb ?_ ?_ <;> intro hb <;> first | (simp (disch := omega) only [go_sem, zz1, zz2, zz3, zz4] at hb; done) | (simp (disch := omega) only [go_sem, zz1, zz2, zz3, zz4] at hb; try omega) | try omega)
      | (refine Zl ?_; intro bn hnil; (try simp (disch := omega) only [go_sem, zz1, zz2, zz3, zz4] at hnil); dsimp only [putT, List.set_cons_succ, List.set_cons_zero])
    exact Zr

end Go.Proofs.Ytdgjelfeclgolaa
