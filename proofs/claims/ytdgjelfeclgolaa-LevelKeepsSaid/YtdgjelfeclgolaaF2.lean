/-
  Lanes: a ticket is cut out; walked.
-/
import Derived.Test.YtdgjelfeclgolaaF1
namespace Go.Proofs.Ytdgjelfeclgolaa
open Go Go.AM
set_option maxHeartbeats 2000000
set_option linter.unusedSimpArgs false
set_option linter.unusedVariables false

def zeroT : TTicket := ⟨0, 0, 0, 0, 0⟩

theorem cut_len {l : List TTicket} {i : Nat} (hi : i < l.length) : (l.eraseIdx i).length = l.length - 1 := by rw [List.length_eraseIdx, if_pos hi]

theorem delete_ok (h0 : Heap) (l : List TTicket) (i : Nat) (hi : i < l.length) (hl : l.length ≤ 4294967296) :
    HCall Try.prog 109 [.ref 12 l.length 0 l.length false l.length, .int .i64 i, .int .i64 ((i : Int) + 1)] ((12, .arr 5 (rws l)) :: h0) 16 (fun r h n => r = .ref 12 l.length 0 (l.length - 1) false l.length ∧ h = (12, .arr 5 (rws (l.eraseIdx i ++ [zeroT]))) :: h0 ∧ n = 45) := by
  have t1 : ((i : Int) + 1).toNat = i + 1 := by omega
  have a1 : List.take (l.length - (i + 1)) (List.drop (i + 1) (rws l)) = rws (l.drop (i + 1)) := by rw [rws_drop, rws_take, List.take_of_length_le (by simp)]
  have d1 : (List.drop (i + 1) l).length = l.length - (i + 1) := List.length_drop
  have d2 : i + (l.length - (i + 1)) = l.length - 1 := by omega
  have d3 : l.length - (l.length - 1) = 1 := by omega
  have d4 : l.length - 1 + 1 = l.length := by omega
  obtain ⟨L2, hL2⟩ : ∃ L2, L2 = l.take i ++ l.drop (i + 1) ++ l.drop (l.length - 1) := ⟨_, rfl⟩
  have r1 : List.take i (rws l) ++ rws (List.drop (i + 1) l) ++ List.drop (l.length - 1) (rws l) = rws L2 := by rw [rws_take, rws_drop, rws_append, rws_append, hL2]
  have e0 : l.eraseIdx i = l.take i ++ l.drop (i + 1) := List.eraseIdx_eq_take_drop_succ l i
  have hlen2 : L2.length = l.length := by rw [hL2]; simp; omega
  have r2 : List.take (l.length - 1) (rws L2) ++ [Enc.enc zeroT] ++ List.drop l.length (rws L2) = rws (l.eraseIdx i ++ [zeroT]) := by
    have h1 : List.take (l.length - 1) L2 = l.eraseIdx i := by
      rw [hL2, e0, List.take_left' (by simp; omega)]
    rw [rws_take, rws_drop, h1, rws_snoc, rws_append, List.drop_of_length_le (by omega), List.append_nil]
  simp only [enc_TTicket, zeroT] at r2
  generalize hN : l.length = N at *
  refine HCall_intro (c := Try.f109.body.getD .skip) Try.func109 rfl (by decide +kernel) (W_start ?_)
  simp only [Try.f109, go_sem]
  have zz1 := t1
  have zz2 := a1
  have zz3 := d1
  have zz4 := d2
  have zz5 := d3
  have zz6 := d4
  have zz7 := r1
  have zz8 := r2
  repeat' first
    | refine Z8 ?_
    | refine Zx ?_
    | (refine Ze ?_; clear hK K)
    | refine W_reg fun K hK => ?_
    | refine W_drwR rfl mixed (by decide +kernel) fun K hK => ?_
    | refine W_drw mixed (by decide +kernel) fun K hK => ?_
    | (refine Zb ?_ ?_ <;> intro hb <;> first | (simp (disch := omega) only [go_sem, zz1, zz2, zz3, zz4, zz5, zz6, zz7, zz8] at hb; done) | (simp (disch := omega) only [go_sem, zz1, zz2, zz3, zz4, zz5, zz6, zz7, zz8] at hb; try omega) | try omega)
    | (refine Zl ?_; intro bn hnil; (try simp (disch := omega) only [go_sem, zz1, zz2, zz3, zz4, zz5, zz6, zz7, zz8] at hnil); dsimp only [putT, List.set_cons_succ, List.set_cons_zero])
    | ((with_reducible apply AO_clearE); (case hg => exact gT); (case ho => exact rfl); (case hcb => exact rfl); (case hct => exact rfl); (case hca => exact rfl); (case hx => exact rfl); (case hl => simp only [go_sem]; exact rfl); (case ht => simp only [go_sem]; exact rfl); (case he => simp only [go_sem]; exact rfl); (case hz => simp only [go_sem]; exact rfl); (case hzl => exact rfl); (case hsz => first | omega | (simp (disch := omega) only [go_sem, zz1, zz2, zz3, zz4, zz5, zz6, zz7, zz8]; omega) | simp (disch := omega) only [go_sem, zz1, zz2, zz3, zz4, zz5, zz6, zz7, zz8]); (case hb => omega); (case hlen => omega); (case hd => exact rfl); (case hh => simp (disch := omega) only [go_sem, zz1, zz2, zz3, zz4, zz5, zz6, zz7, zz8]; exact rfl); (case hn => exact nT))
  apply retH_of
  case h => simp only [go_sem]; exact rfl
  case h2 => exact rfl
  case h3 => exact rfl
  case h4 => exact rfl

theorem without_ok (l : TLane) (i : Nat) (t : TTicket) (hi : i < l.wait.length) (ht : l.wait[i]? = some t) (hl : l.wait.length ≤ 4294967296) : PCall Try.prog 92 [.agg (Enc.enc l), .int .i64 i] (· = .tuple [.agg (Enc.enc (⟨l.start, l.wait.eraseIdx i⟩ : TLane)), .agg (Enc.enc t)]) := by
  have c1 := clone_ok l.wait hl
  have c2 := fun h0 => delete_ok h0 l.wait i hi hl
  have f1 : (rws (l.wait.eraseIdx i ++ [zeroT])).length = l.wait.length := by rw [rws_length, List.length_append, cut_len hi]; simp; omega
  have f2 : List.take (l.wait.length - 1) (rws (l.wait.eraseIdx i ++ [zeroT])) = rws (l.wait.eraseIdx i) := by rw [rws_take, List.take_left' (cut_len hi)]
  refine PCall_intro (c := Try.f92.body.getD .skip) Try.func92 rfl (by decide +kernel) Zf (W_start ?_)
  simp only [Try.f92, go_sem]
  have zz1 := rws_get ht
  repeat' first
    | refine Z1 ?_
    | refine Zx ?_
    | refine Zw c1 ?_
    | refine Zd (c2 _) ?_
    | (refine Ze ?_; clear hK K)
    | refine W_reg fun K hK => ?_
    | refine W_drwR rfl mixed (by decide +kernel) fun K hK => ?_
    | refine W_drw mixed (by decide +kernel) fun K hK => ?_
    | (refine Zb ?_ ?_ <;> intro hb <;> first | (simp (disch := omega) only [go_sem, zz1] at hb; done) | (simp (disch := omega) only [go_sem, zz1] at hb; try omega) | try omega)
    | (refine Zl ?_; intro bn hnil; (try simp (disch := omega) only [go_sem, zz1] at hnil); dsimp only [putT, List.set_cons_succ, List.set_cons_zero])
  exact Zr

theorem copied_ok (l : TLane) (hl : l.wait.length ≤ 4294967296) : PCall Try.prog 91 [.agg (Enc.enc l)] (· = .agg (Enc.enc l)) := by
  have c1 := clone_ok l.wait hl
  refine PCall_intro (c := Try.f91.body.getD .skip) Try.func91 rfl (by decide +kernel) Zf (W_start ?_)
  simp only [Try.f91, go_sem]
  repeat' first
    | refine Z0 ?_
    | refine Zx ?_
    | refine Zw c1 ?_
    | (refine Ze ?_; clear hK K)
    | refine W_reg fun K hK => ?_
    | refine W_drwR rfl mixed (by decide +kernel) fun K hK => ?_
    | refine W_drw mixed (by decide +kernel) fun K hK => ?_
    | (refine Zb ?_ ?_ <;> intro hb <;> first | (simp (disch := omega) only [go_sem] at hb; done) | (simp (disch := omega) only [go_sem] at hb; try omega) | try omega)
    | (refine Zl ?_; intro bn hnil; (try simp (disch := omega) only [go_sem] at hnil); dsimp only [putT, List.set_cons_succ, List.set_cons_zero])
  exact Zr

/-- Who joins a lane. -/
def join (l : TLane) (r : Int) (t : TTicket) : TLane := ⟨if l.wait.length = 0 then max l.start r else l.start, l.wait ++ [t]⟩

theorem join_ok (l : TLane) (r : Int) (t : TTicket) (hl : l.wait.length ≤ 4294967295) : PCall Try.prog 20 [.agg (Enc.enc l), .int .u64 r, .agg (Enc.enc t)] (· = .agg (Enc.enc (join l r t))) := by
  have c1 := clone_ok l.wait (by omega)
  have e1 := rws_snoc l.wait t
  simp only [enc_TTicket] at e1
  refine PCall_intro (c := Try.f20.body.getD .skip) Try.func20 rfl (by decide +kernel) Zf (W_start ?_)
  simp only [Try.f20, go_sem]
  by_cases h0 : l.wait.length = 0
  · have e0 : join l r t = ⟨max l.start r, l.wait ++ [t]⟩ := by rw [join, if_pos h0]
    rw [e0]
    have zz1 := e1
    repeat' first
      | refine Z1 ?_
      | refine Zx ?_
      | refine Zw c1 ?_
      | (refine Ze ?_; clear hK K)
      | refine W_reg fun K hK => ?_
      | refine W_drwR rfl mixed (by decide +kernel) fun K hK => ?_
      | refine W_drw mixed (by decide +kernel) fun K hK => ?_
      | (refine Zb ?_ ?_ <;> intro hb <;> first | (simp (disch := omega) only [go_sem, zz1] at hb; done) | (simp (disch := omega) only [go_sem, zz1] at hb; try omega) | try omega)
      | (refine Zl ?_; intro bn hnil; (try simp (disch := omega) only [go_sem, zz1] at hnil); dsimp only [putT, List.set_cons_succ, List.set_cons_zero])
    exact Zr
  · have e0 : join l r t = ⟨l.start, l.wait ++ [t]⟩ := by rw [join, if_neg h0]
    rw [e0]
    have zz1 := e1
    repeat' first
      | refine Z1 ?_
      | refine Zx ?_
      | refine Zw c1 ?_
      | (refine Ze ?_; clear hK K)
      | refine W_reg fun K hK => ?_
      | refine W_drwR rfl mixed (by decide +kernel) fun K hK => ?_
      | refine W_drw mixed (by decide +kernel) fun K hK => ?_
      | (refine Zb ?_ ?_ <;> intro hb <;> first | (simp (disch := omega) only [go_sem, zz1] at hb; done) | (simp (disch := omega) only [go_sem, zz1] at hb; try omega) | try omega)
      | (refine Zl ?_; intro bn hnil; (try simp (disch := omega) only [go_sem, zz1] at hnil); dsimp only [putT, List.set_cons_succ, List.set_cons_zero])
    exact Zr

/-- The finish of the first who waits. -/
def fin (l : TLane) (g : Int) : Int × Bool := match l.wait with | [] => (0, false) | t :: _ => (add l.start (work t g), true)

theorem fin_ok (l : TLane) (g : Int) (hs : 0 ≤ l.start) (hl : l.wait.length ≤ 4294967296) : PCall Try.prog 25 [.agg (Enc.enc l), .int .i64 g] (· = .tuple [.int .u64 (fin l g).1, .bool (fin l g).2]) := by
  obtain ⟨st, w⟩ := l
  simp only [] at hs hl
  refine PCall_intro (c := Try.f25.body.getD .skip) Try.func25 rfl (by decide +kernel) Zf (W_start ?_)
  simp only [Try.f25, go_sem]
  rcases w with _ | ⟨t, w⟩
  · repeat' first
      | refine Z0 ?_
      | refine Zx ?_
      | (refine Ze ?_; clear hK K)
      | refine W_reg fun K hK => ?_
      | refine W_drwR rfl mixed (by decide +kernel) fun K hK => ?_
      | refine W_drw mixed (by decide +kernel) fun K hK => ?_
      | (refine Zb ?_ ?_ <;> intro hb <;> first | (simp (disch := omega) only [go_sem] at hb; done) | (simp (disch := omega) only [go_sem] at hb; try omega) | try omega)
      | (refine Zl ?_; intro bn hnil; (try simp (disch := omega) only [go_sem] at hnil); dsimp only [putT, List.set_cons_succ, List.set_cons_zero])
    exact Zr
  · have c1 := work_ok t g
    have b1 := work_le t g
    have c2 := add_ok st (work t g) hs (by omega)
    have h0 : (rws (t :: w))[0]? = some [.int .i64 t.iD, .int .i64 t.width, .int .i64 t.seats, .int .i64 t.since, .int .i64 t.until_] := rfl
    have h1 : (t :: w).length = w.length + 1 := rfl
    have h2 : fin ⟨st, t :: w⟩ g = (add st (work t g), true) := rfl
    rw [h2]
    generalize t :: w = W at *
    have zz1 := h0
    repeat' first
      | refine Z1 ?_
      | refine Zx ?_
      | refine Zc c1 ?_
      | refine Zc c2 ?_
      | (refine Ze ?_; clear hK K)
      | refine W_reg fun K hK => ?_
      | refine W_drwR rfl mixed (by decide +kernel) fun K hK => ?_
      | refine W_drw mixed (by decide +kernel) fun K hK => ?_
      | (refine Zb ?_ ?_ <;> intro hb <;> first | (simp (disch := omega) only [go_sem, zz1] at hb; done) | (simp (disch := omega) only [go_sem, zz1] at hb; try omega) | try omega)
      | (refine Zl ?_; intro bn hnil; (try simp (disch := omega) only [go_sem, zz1] at hnil); dsimp only [putT, List.set_cons_succ, List.set_cons_zero])
    exact Zr

end Go.Proofs.Ytdgjelfeclgolaa
