/-
  Lanes: take, drop, late, seats; walked.
-/
import Derived.Test.YtdgjelfeclgolaaF2
namespace Go.Proofs.Ytdgjelfeclgolaa
open Go Go.AM
set_option maxHeartbeats 4000000
set_option linter.unusedSimpArgs false
set_option linter.unusedVariables false

/-- What is handed back: a lane, a ticket, was there one? -/
abbrev laneV (r : TLane × TTicket × Bool) : AVal := .tuple [.agg (Enc.enc r.1), .agg (Enc.enc r.2.1), .bool r.2.2]

def take (l : TLane) (g : Int) : TLane × TTicket × Bool := match l.wait with | [] => (l, zeroT, false) | t :: w => (⟨add l.start (work t g), w⟩, t, true)

theorem take_ok (l : TLane) (g : Int) (hs : 0 ≤ l.start) (hl : l.wait.length ≤ 4294967296) : PCall Try.prog 21 [.agg (Enc.enc l), .int .i64 g] (· = laneV (take l g)) := by
  have c1 := fin_ok l g hs hl
  refine PCall_intro (c := Try.f21.body.getD .skip) Try.func21 rfl (by decide +kernel) Zf (W_start ?_)
  simp only [Try.f21, go_sem]
  rcases hw : l.wait with _ | ⟨t, w⟩
  · have e1 : take l g = (l, zeroT, false) := by rw [take, hw]
    have e2 : fin l g = (0, false) := by rw [fin, hw]
    have c2 := copied_ok l hl
    rw [e1]
    rw [e2] at c1
    rw [← hw]
    repeat' first
      | refine Z0 ?_
      | refine Zx ?_
      | refine Zc c1 ?_
      | refine Zc c2 ?_
      | (refine Ze ?_; clear hK K)
      | refine W_reg fun K hK => ?_
      | refine W_drwR rfl mixed (by decide +kernel) fun K hK => ?_
      | refine W_drw mixed (by decide +kernel) fun K hK => ?_
      | (refine Zb ?_ ?_ <;> intro hb <;> first | (simp (disch := omega) only [go_sem] at hb; done) | (simp (disch := omega) only [go_sem] at hb; try omega) | try omega)
      | (refine Zl ?_; intro bn hnil; (try simp (disch := omega) only [go_sem] at hnil); dsimp only [putT, List.set_cons_succ, List.set_cons_zero])
    exact Zr
  · have e1 : take l g = (⟨add l.start (work t g), w⟩, t, true) := by rw [take, hw]
    have e2 : fin l g = (add l.start (work t g), true) := by rw [fin, hw]
    have c2 := without_ok ⟨add l.start (work t g), l.wait⟩ 0 t (by simp [hw]) (by simp [hw]) hl
    have e3 : l.wait.eraseIdx 0 = w := by rw [hw]; rfl
    simp only [e3] at c2
    rw [show ((0 : Nat) : Int) = 0 from rfl] at c2
    rw [e1]
    rw [e2] at c1
    rw [← hw]
    repeat' first
      | refine Z0 ?_
      | refine Zx ?_
      | refine Zc c1 ?_
      | refine Zc c2 ?_
      | (refine Ze ?_; clear hK K)
      | refine W_reg fun K hK => ?_
      | refine W_drwR rfl mixed (by decide +kernel) fun K hK => ?_
      | refine W_drw mixed (by decide +kernel) fun K hK => ?_
      | (refine Zb ?_ ?_ <;> intro hb <;> first | (simp (disch := omega) only [go_sem] at hb; done) | (simp (disch := omega) only [go_sem] at hb; try omega) | try omega)
      | (refine Zl ?_; intro bn hnil; (try simp (disch := omega) only [go_sem] at hnil); dsimp only [putT, List.set_cons_succ, List.set_cons_zero])
    exact Zr

def drop (l : TLane) (id : Int) : TLane × TTicket × Bool :=
  if 0 ≤ idx (fun t => t.iD == id) l.wait then (⟨l.start, l.wait.eraseIdx (idx (fun t => t.iD == id) l.wait).toNat⟩, l.wait.getD (idx (fun t => t.iD == id) l.wait).toNat zeroT, true) else (l, zeroT, false)

theorem drop_cases (l : TLane) (id : Int) : (∃ (i : Nat) (t : TTicket), idx (fun t => t.iD == id) l.wait = i ∧ i < l.wait.length ∧ l.wait[i]? = some t ∧ t.iD = id ∧ drop l id = (⟨l.start, l.wait.eraseIdx i⟩, t, true) ∧ ∀ k y, k < i → l.wait[k]? = some y → (y.iD == id) = false) ∨
    (idx (fun t => t.iD == id) l.wait = -1 ∧ drop l id = (l, zeroT, false) ∧ ∀ x, x ∈ l.wait → ¬ x.iD = id) := by
  rcases idx_cases (fun t : TTicket => t.iD == id) l.wait with ⟨i, x, h1, h2, h3, h4, h5, h6⟩ | ⟨h1, h2, h3⟩
  · refine .inl ⟨i, x, h1, h2, h3, by simpa using h4, ?_, h6⟩
    rw [drop, h1, if_pos (by omega), Int.toNat_natCast, List.getD_eq_getElem?_getD, h3]
    rfl
  · refine .inr ⟨h1, ?_, fun x hx => by simpa using h3 x hx⟩
    rw [drop, h1, if_neg (by omega)]

theorem drop_ok (l : TLane) (id : Int) (hl : l.wait.length ≤ 4294967296) : PCall Try.prog 23 [.agg (Enc.enc l), .int .i64 id] (· = laneV (drop l id)) := by
  have c1 := indexFunc_ok l.wait 95 (.fp [.int .i64 id]) (fun x => x.iD == id) (by unfold maxLen; omega) (by simp [Fz.fp_iff, Fz.int_iff]) fun x _ => closure_ok x id
  refine PCall_intro (c := Try.f23.body.getD .skip) Try.func23 rfl (by decide +kernel) Zf (W_start ?_)
  simp only [Try.f23, go_sem]
  rcases drop_cases l id with ⟨i, t, h1, h2, h3, h4, h5, h6⟩ | ⟨h1, h2, h3⟩
  · rw [h1] at c1
    rw [h5]
    have c2 := without_ok l i t h2 h3 hl
    repeat' first
      | refine Z0 ?_
      | refine Zx ?_
      | refine Zn c1 ?_
      | refine Zc c2 ?_
      | (refine Ze ?_; clear hK K)
      | refine W_reg fun K hK => ?_
      | refine W_drwR rfl mixed (by decide +kernel) fun K hK => ?_
      | refine W_drw mixed (by decide +kernel) fun K hK => ?_
      | (refine Zb ?_ ?_ <;> intro hb <;> first | (simp (disch := omega) only [go_sem] at hb; done) | (simp (disch := omega) only [go_sem] at hb; try omega) | try omega)
      | (refine Zl ?_; intro bn hnil; (try simp (disch := omega) only [go_sem] at hnil); dsimp only [putT, List.set_cons_succ, List.set_cons_zero])
    exact Zr
  · rw [h1] at c1
    rw [h2]
    have c2 := copied_ok l hl
    repeat' first
      | refine Z0 ?_
      | refine Zx ?_
      | refine Zn c1 ?_
      | refine Zc c2 ?_
      | (refine Ze ?_; clear hK K)
      | refine W_reg fun K hK => ?_
      | refine W_drwR rfl mixed (by decide +kernel) fun K hK => ?_
      | refine W_drw mixed (by decide +kernel) fun K hK => ?_
      | (refine Zb ?_ ?_ <;> intro hb <;> first | (simp (disch := omega) only [go_sem] at hb; done) | (simp (disch := omega) only [go_sem] at hb; try omega) | try omega)
      | (refine Zl ?_; intro bn hnil; (try simp (disch := omega) only [go_sem] at hnil); dsimp only [putT, List.set_cons_succ, List.set_cons_zero])
    exact Zr

def late (l : TLane) (now : Int) : List TTicket := l.wait.filter fun t => decide (t.until_ ≤ now)

theorem filter_take {α : Type} {p : α → Bool} {l : List α} {i : Nat} {x : α} (h : l[i]? = some x) : (l.take (i + 1)).filter p = (l.take i).filter p ++ if p x then [x] else [] := by
  rw [take_snoc h, List.filter_append]
  congr 1
  by_cases hp : p x = true <;> simp [hp]

theorem late_ok (l : TLane) (now : Int) (hl : l.wait.length ≤ 4294967296) : PCall Try.prog 33 [.agg (Enc.enc l), .int .i64 now] (· = .sl (rws (late l now)) none) := by
  refine PCall_intro (c := Try.f33.body.getD .skip) Try.func33 rfl (by decide +kernel) Zf (W_start ?_)
  simp only [Try.f33, go_sem]
  repeat' first
    | refine Z0 ?_
    | refine Zx ?_
    | (refine Ze ?_; clear hK K)
    | refine W_reg fun K hK => ?_
    | refine W_drwR rfl mixed (by decide +kernel) fun K hK => ?_
    | refine W_drw mixed (by decide +kernel) fun K hK => ?_
    | (refine Zb ?_ ?_ <;> intro hb <;> first | (simp (disch := omega) only [go_sem] at hb; done) | (simp (disch := omega) only [go_sem] at hb; try omega) | try omega)
    | (refine Zl ?_; intro bn hnil; (try simp (disch := omega) only [go_sem] at hnil); dsimp only [putT, List.set_cons_succ, List.set_cons_zero])
  (apply W_unbornAt 5 5; (case ht => exact rfl); (case e => exact sT); (case hn => exact nT))
  refine W_foldA (fun id (a : Nat × List TTicket) => [none, none, none, none, none, some (.ref id a.2.length 0 a.2.length false a.2.length), none, some .junk, none, none, none, some (.int .i64 a.1), some .junk, some .junk, some .junk, some .junk, some .junk, some .junk, some .junk, some .junk, some .junk, some .junk, some .junk, some .junk]) (fun a => rws a.2) (fun a => a.1 ≤ l.wait.length ∧ a.2 = (l.wait.take a.1).filter fun t => decide (t.until_ ≤ now)) (fun a => l.wait.length - a.1) (0, []) ⟨by simp, by simp⟩ (by exact weak_mk wkD wkH wkN wkM (by omega)) ?_
  rintro ⟨i, o⟩ ⟨hi, ho⟩
  simp only [] at hi ho
  simp only [msk_none, msk_some, msk_nil]
  have ho2 : o.length ≤ i := by rw [ho]; have := List.length_filter_le (fun t : TTicket => decide (t.until_ ≤ now)) (l.wait.take i); simp at this; omega
  rcases Nat.lt_or_ge i l.wait.length with h4 | h4
  · obtain ⟨x, hx⟩ := some_of_lt h4
    have e1 := filter_take (p := fun t : TTicket => decide (t.until_ ≤ now)) hx
    rw [← ho] at e1
    by_cases hp : x.until_ ≤ now
    · have e2 := rws_snoc o x
      simp only [enc_TTicket] at e2
      have zz1 := rws_get hx
      have zz2 := e2
      repeat' first
        | refine Z2 ?_
        | refine Zx ?_
        | (refine Ze ?_; clear hK K)
        | refine W_reg fun K hK => ?_
        | refine W_drwR rfl mixed (by decide +kernel) fun K hK => ?_
        | refine W_drw mixed (by decide +kernel) fun K hK => ?_
        | (refine Zb ?_ ?_ <;> intro hb <;> first | (simp (disch := omega) only [go_sem, zz1, zz2] at hb; done) | (simp (disch := omega) only [go_sem, zz1, zz2] at hb; try omega) | try omega)
        | (refine Zl ?_; intro bn hnil; (try simp (disch := omega) only [go_sem, zz1, zz2] at hnil); dsimp only [putT, List.set_cons_succ, List.set_cons_zero])
      exact L_next ⟨(i + 1, o ++ [x]), by simp; omega, ⟨by simp; omega, by simp [e1, hp]⟩, (by simp only [List.length_append, List.length_cons, List.length_nil, Nat.zero_add]; exact (by exact weak_mk wkD wkH wkN wkM (by omega)))⟩
    · have zz1 := rws_get hx
      repeat' first
        | refine Z1 ?_
        | refine Zx ?_
        | (refine Ze ?_; clear hK K)
        | refine W_reg fun K hK => ?_
        | refine W_drwR rfl mixed (by decide +kernel) fun K hK => ?_
        | refine W_drw mixed (by decide +kernel) fun K hK => ?_
        | (refine Zb ?_ ?_ <;> intro hb <;> first | (simp (disch := omega) only [go_sem, zz1] at hb; done) | (simp (disch := omega) only [go_sem, zz1] at hb; try omega) | try omega)
        | (refine Zl ?_; intro bn hnil; (try simp (disch := omega) only [go_sem, zz1] at hnil); dsimp only [putT, List.set_cons_succ, List.set_cons_zero])
      exact L_next ⟨(i + 1, o), by simp; omega, ⟨by simp; omega, by simp [e1, hp]⟩, (by exact weak_mk wkD wkH wkN wkM (by omega))⟩
  · obtain rfl : i = l.wait.length := by omega
    rw [List.take_length] at ho
    have e1 : late l now = o := ho.symm
    rw [e1]
    repeat' first
      | refine Z0 ?_
      | refine Zx ?_
      | (refine Ze ?_; clear hK K)
      | refine W_reg fun K hK => ?_
      | refine W_drwR rfl mixed (by decide +kernel) fun K hK => ?_
      | refine W_drw mixed (by decide +kernel) fun K hK => ?_
      | (refine Zb ?_ ?_ <;> intro hb <;> first | (simp (disch := omega) only [go_sem] at hb; done) | (simp (disch := omega) only [go_sem] at hb; try omega) | try omega)
      | (refine Zl ?_; intro bn hnil; (try simp (disch := omega) only [go_sem] at hnil); dsimp only [putT, List.set_cons_succ, List.set_cons_zero])
    exact Zr

def seats (l : TLane) : Int := (l.wait.map fun t => wid t.width).sum

theorem seats_take (w : List TTicket) (i : Nat) : 0 ≤ ((w.take i).map fun t => wid t.width).sum ∧ ((w.take i).map fun t => wid t.width).sum ≤ 16 * i := by
  induction i with
  | zero => simp
  | succ i ih =>
    rcases Nat.lt_or_ge i w.length with h | h
    · obtain ⟨x, hx⟩ := some_of_lt h
      rw [sum_take hx]
      have := wid_le x.width
      omega
    · rw [List.take_of_length_le (by omega)]
      rw [List.take_of_length_le h] at ih
      omega

theorem seats_ok (l : TLane) (hl : l.wait.length ≤ 4294967296) : PCall Try.prog 22 [.agg (Enc.enc l)] (· = .int .i64 (seats l)) := by
  refine PCall_intro (c := Try.f22.body.getD .skip) Try.func22 rfl (by decide +kernel) Zf (W_start ?_)
  simp only [Try.f22, go_sem]
  repeat' first
    | refine Z0 ?_
    | refine Zx ?_
    | (refine Ze ?_; clear hK K)
    | refine W_reg fun K hK => ?_
    | refine W_drwR rfl mixed (by decide +kernel) fun K hK => ?_
    | refine W_drw mixed (by decide +kernel) fun K hK => ?_
    | (refine Zb ?_ ?_ <;> intro hb <;> first | (simp (disch := omega) only [go_sem] at hb; done) | (simp (disch := omega) only [go_sem] at hb; try omega) | try omega)
    | (refine Zl ?_; intro bn hnil; (try simp (disch := omega) only [go_sem] at hnil); dsimp only [putT, List.set_cons_succ, List.set_cons_zero])
  refine W_foldK (fun (a : Nat × Int) => [none, none, none, some (.int .i64 a.2), none, some .junk, none, none, none, some (.int .i64 a.1), some .junk, some .junk, some .junk, some .junk, some .junk, some .junk, some .junk, some .junk]) (fun a => a.1 ≤ l.wait.length ∧ a.2 = ((l.wait.take a.1).map fun t => wid t.width).sum) (fun a => l.wait.length - a.1) (0, 0) ⟨by simp, by simp⟩ (by exact weak_mk wkD wkH wkN wkM (by omega)) ?_
  rintro ⟨i, n⟩ ⟨hi, hn⟩
  simp only [] at hi hn
  simp only [msk_none, msk_some, msk_nil]
  have hb := seats_take l.wait i
  rw [← hn] at hb
  rcases Nat.lt_or_ge i l.wait.length with h4 | h4
  · obtain ⟨x, hx⟩ := some_of_lt h4
    have e1 := sum_take (f := fun t : TTicket => wid t.width) hx
    rw [← hn] at e1
    have c1 := width_ok x
    have b1 := wid_le x.width
    have zz1 := rws_get hx
    repeat' first
      | refine Z1 ?_
      | refine Zx ?_
      | refine Zc c1 ?_
      | (refine Ze ?_; clear hK K)
      | refine W_reg fun K hK => ?_
      | refine W_drwR rfl mixed (by decide +kernel) fun K hK => ?_
      | refine W_drw mixed (by decide +kernel) fun K hK => ?_
      | (refine Zb ?_ ?_ <;> intro hb <;> first | (simp (disch := omega) only [go_sem, zz1] at hb; done) | (simp (disch := omega) only [go_sem, zz1] at hb; try omega) | try omega)
      | (refine Zl ?_; intro bn hnil; (try simp (disch := omega) only [go_sem, zz1] at hnil); dsimp only [putT, List.set_cons_succ, List.set_cons_zero])
    exact L_next ⟨(i + 1, n + wid x.width), by simp; omega, ⟨by simp; omega, e1.symm⟩, (by exact weak_mk wkD wkH wkN wkM (by omega))⟩
  · obtain rfl : i = l.wait.length := by omega
    rw [List.take_length] at hn
    have e1 : seats l = n := hn.symm
    rw [e1]
    repeat' first
      | refine Z0 ?_
      | refine Zx ?_
      | (refine Ze ?_; clear hK K)
      | refine W_reg fun K hK => ?_
      | refine W_drwR rfl mixed (by decide +kernel) fun K hK => ?_
      | refine W_drw mixed (by decide +kernel) fun K hK => ?_
      | (refine Zb ?_ ?_ <;> intro hb <;> first | (simp (disch := omega) only [go_sem] at hb; done) | (simp (disch := omega) only [go_sem] at hb; try omega) | try omega)
      | (refine Zl ?_; intro bn hnil; (try simp (disch := omega) only [go_sem] at hnil); dsimp only [putT, List.set_cons_succ, List.set_cons_zero])
    exact Zr

end Go.Proofs.Ytdgjelfeclgolaa
