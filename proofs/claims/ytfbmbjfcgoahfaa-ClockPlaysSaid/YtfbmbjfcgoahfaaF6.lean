/-
  The clock: New, Now, Set, Cancel, Next, Left, Advance; of nil; walked.
-/
import Derived.Test.YtfbmbjfcgoahfaaF5
namespace Go.Proofs.Ytfbmbjfcgoahfaa
open Go Go.AM
set_option maxHeartbeats 4000000
set_option maxRecDepth 8000
set_option linter.unusedSimpArgs false
set_option linter.unusedVariables false

/-- A clock's objects: itself, its heap's. -/
abbrev cobs (C H a m : Nat) (now : Int) (s : HS) : Heap := (C, .arr 2 [[.int .i64 now, .ptr H 1 0 0]]) :: hobs H a m s

theorem num4_inj {H a m C : Nat} (hd : [C, H, a, m].Nodup) (i j : Nat) (hi : i ∈ [3, 2, 1, 0]) (hj : j ∈ [3, 2, 1, 0]) (e : num4 H a m C i = num4 H a m C j) : i = j := by
  simp only [List.nodup_cons, List.mem_cons, List.not_mem_nil, or_false, not_or] at hd
  simp only [List.mem_cons, List.not_mem_nil, or_false] at hi hj
  rcases hi with rfl | rfl | rfl | rfl <;> rcases hj with rfl | rfl | rfl | rfl <;> simp only [num4] at e <;> first | rfl | omega

theorem cobs_lf (now : Int) (s : HS) : ∀ e, e ∈ cobs 3 0 1 2 now s → LfO (fun i => i ∈ [3, 2, 1, 0]) e.2 := by
  intro e he
  simp only [List.mem_cons, List.not_mem_nil, or_false] at he
  rcases he with rfl | rfl | rfl | rfl
  · simp [lfO_row, lf_ptr, lf_int]
  · simp [lfO_mpe]
  · simp [lfO_rws]
  · simp [lfO_row, lf_ref, lf_mapv]

theorem FCall.clock {g : FuncId} {args0 args : List AVal} {r0 r : AVal} {n n' : Int} {s s' : HS} (hc : HCall Try.prog g args0 (cobs 3 0 1 2 n s) 4 fun r h _ => r = r0 ∧ h = cobs 3 0 1 2 n' s') {C H a m : Nat} (hd : [C, H, a, m].Nodup)
    (ha : ∀ x, x ∈ args0 → LfA (fun i => i ∈ [3, 2, 1, 0]) x) (hr : LfA (fun i => i ∈ [3, 2, 1, 0]) r0) (ea : args0.map (renA (num4 H a m C)) = args) (er : renA (num4 H a m C) r0 = r) : FCall Try.prog g args (cobs C H a m n s) r (cobs C H a m n' s') := by
  refine FCall.of (f := num4 H a m C) hc rfl (by simp) (fun e he => ?_) (num4_inj hd) (cobs_lf n s) (cobs_lf n' s') hr ha ea ?_ ?_ er
  · simp only [List.mem_cons, List.not_mem_nil, or_false] at he
    rcases he with rfl | rfl | rfl | rfl <;> simp
  · simp only [cobs, hobs, hrow, renH, renO, ren_rws, ren0, num4, List.map_cons, List.map_nil]
  · simp only [cobs, hobs, hrow, renH, renO, ren_rws, ren0, num4, List.map_cons, List.map_nil]

theorem cnew_N : NCall Try.prog 25 [] (.ptr 8 1 0 0) (cobs 8 4 6 2 0 newS) 10 := by
  refine ⟨?_, by simp, fun e he => ?_, fun e he => ?_, .leaf _ (.ptr _ _ _ _ (by simp)), fun x hx => (nomatch hx)⟩
  · refine HCall_intro (c := Try.f25.body.getD .skip) Try.func25 rfl (by decide +kernel) (W_start ?_)
    simp only [Try.f25, go_sem]
    repeat' first
      | refine Z0 ?_
      | refine Zx ?_
      | refine Zbn new_N ?_
      | (refine Ze ?_; clear hK K)
      | refine W_reg fun K hK => ?_
      | refine W_drwR rfl mixed (by decide +kernel) fun K hK => ?_
      | refine W_drw mixed (by decide +kernel) fun K hK => ?_
      | (refine Zb ?_ ?_ <;> intro hb <;> first | (simp (disch := omega) only [go_sem] at hb; done) | (simp (disch := omega) only [go_sem] at hb; try omega) | try omega)
      | (refine Zl ?_; intro bn hnil; (try simp (disch := omega) only [go_sem] at hnil); dsimp only [putT, List.set_cons_succ, List.set_cons_zero])
    exact Zrf
  · simp only [List.mem_cons, List.not_mem_nil, or_false] at he
    rcases he with rfl | rfl | rfl | rfl <;> simp
  · simp only [List.mem_cons, List.not_mem_nil, or_false] at he
    rcases he with rfl | rfl | rfl | rfl
    · simp [lfO_row, lf_ptr, lf_int]
    · simp [lfO_mpe]
    · simp [lfO_rws]
    · simp [lfO_row, lf_ref, lf_mapv]

/-- A clock: its moment; what is due is later, and not too late. -/
structure CView (n : Int) (s : HS) (l : List TItem) : Prop where
  v : View s l
  lo : 0 ≤ n
  hi : n ≤ 1099511627776
  key : ∀ y, y ∈ l → n < y.key ∧ y.key ≤ 1099511627776

def dueOf (x : TItem) : TDue := ⟨x.iD, x.key⟩
def zDue : TDue := ⟨0, 0⟩
def setL (n : Int) (l : List TItem) (id at_ : Int) : List TItem × Int := if at_ ≤ n ∨ at_ > 1099511627776 then (l, 1) else pushL l ⟨at_, id⟩
def nextL (l : List TItem) : TDue × Bool := match l with | [] => (zDue, false) | x :: _ => (dueOf x, true)
def dueB (to : Int) (x : TItem) : Bool := decide (x.key ≤ to)
def advL (n : Int) (l : List TItem) (to : Int) : Int × List TItem × List TDue × Int :=
  if to < n ∨ to > 1099511627776 then (n, l, [], 1) else (to, l.dropWhile (dueB to), (l.takeWhile (dueB to)).map dueOf, 0)

theorem CView.new : CView 0 newS [] := ⟨View.new, by omega, by omega, fun y hy => (nomatch hy)⟩

theorem CView.set {n : Int} {s : HS} {l : List TItem} (c : CView n s l) {s' : HS} {id at_ : Int} (h : ¬ (at_ ≤ n ∨ at_ > 1099511627776)) (v : View s' (pushL l ⟨at_, id⟩).1) : CView n s' (setL n l id at_).1 := by
  unfold setL
  rw [if_neg h]
  refine ⟨v, c.lo, c.hi, fun y hy => ?_⟩
  unfold pushL at hy
  split at hy
  · exact c.key y hy
  · split at hy
    · exact c.key y hy
    · rcases mem_insL.1 hy with rfl | hy
      · simp only []; omega
      · exact c.key y hy

theorem CView.remove {n : Int} {s : HS} {l : List TItem} (c : CView n s l) {s' : HS} {id : Int} (v : View s' (removeL l id).1) : CView n s' (removeL l id).1 := by
  refine ⟨v, c.lo, c.hi, fun y hy => ?_⟩
  unfold removeL at hy
  split at hy
  · exact c.key y (mem_cutL.1 hy).1
  · exact c.key y hy

abbrev dueV (r : TDue × Bool) : AVal := .tuple [.agg (Enc.enc r.1), .bool r.2]

def setS (n : Int) (s : HS) (id at_ : Int) : HS := if at_ ≤ n ∨ at_ > 1099511627776 then s else (pushS s ⟨at_, id⟩).1

theorem set_F {n : Int} {s : HS} {l : List TItem} (c : CView n s l) (id at_ : Int) (hid : -9223372036854775808 ≤ id ∧ id ≤ 9223372036854775807) : CView n (setS n s id at_) (setL n l id at_).1 ∧ ∀ {C H a m : Nat}, [C, H, a, m].Nodup → FCall Try.prog 26 [.ptr C 1 0 0, .int .i64 id, .int .i64 at_] (cobs C H a m n s) (.int .i64 (setL n l id at_).2) (cobs C H a m n (setS n s id at_)) := by
  by_cases h : at_ ≤ n ∨ at_ > 1099511627776
  · have e : setL n l id at_ = (l, 1) := by unfold setL; rw [if_pos h]
    have e2 : setS n s id at_ = s := by unfold setS; rw [if_pos h]
    rw [e, e2]
    refine ⟨c, fun hd => FCall.clock (args0 := [.ptr 3 1 0 0, .int .i64 id, .int .i64 at_]) (r0 := .int .i64 1) ?_ hd (by simp [lfA_leaf, lf_ptr, lf_int]) (.leaf _ (.fz _ (.int _ _))) rfl rfl⟩
    refine HCall_intro (c := Try.f26.body.getD .skip) Try.func26 rfl (by decide +kernel) (W_start ?_)
    simp only [Try.f26, go_sem]
    repeat' first
      | refine Z0 ?_
      | refine Zx ?_
      | (refine Ze ?_; clear hK K)
      | refine W_reg fun K hK => ?_
      | refine W_drwR rfl mixed (by decide +kernel) fun K hK => ?_
      | refine W_drw mixed (by decide +kernel) fun K hK => ?_
      | (refine Zb ?_ ?_ <;> intro hb <;> first | (simp (disch := omega) only [go_sem] at hb; done) | (simp (disch := omega) only [go_sem] at hb; try omega) | try omega)
      | (refine Zl ?_; intro bn hnil; (try simp (disch := omega) only [go_sem] at hnil); dsimp only [putT, List.set_cons_succ, List.set_cons_zero])
    all_goals exact Zrf
  · have hlo := c.lo
    have hw : TItem.wf ⟨at_, id⟩ := wf_mk (by omega) (by omega) hid.1 hid.2
    obtain ⟨v', e'⟩ := c.v.push hw
    have c1 := e' ▸ push_F s c.v.g ⟨at_, id⟩ hw (H := 0) (a := 1) (m := 2) (by decide)
    have e : setL n l id at_ = pushL l ⟨at_, id⟩ := by unfold setL; rw [if_neg h]
    have e2 : setS n s id at_ = (pushS s ⟨at_, id⟩).1 := by unfold setS; rw [if_neg h]
    refine ⟨e2 ▸ c.set h v', fun hd => ?_⟩
    rw [e, e2]
    refine FCall.clock (args0 := [.ptr 3 1 0 0, .int .i64 id, .int .i64 at_]) (r0 := .int .i64 (pushL l ⟨at_, id⟩).2) ?_ hd (by simp [lfA_leaf, lf_ptr, lf_int]) (.leaf _ (.fz _ (.int _ _))) rfl rfl
    refine HCall_intro (c := Try.f26.body.getD .skip) Try.func26 rfl (by decide +kernel) (W_start ?_)
    simp only [Try.f26, go_sem]
    repeat' first
      | refine Z0 ?_
      | refine Zx ?_
      | refine Zfc c1 ?_
      | (refine Ze ?_; clear hK K)
      | refine W_reg fun K hK => ?_
      | refine W_drwR rfl mixed (by decide +kernel) fun K hK => ?_
      | refine W_drw mixed (by decide +kernel) fun K hK => ?_
      | (refine Zb ?_ ?_ <;> intro hb <;> first | (simp (disch := omega) only [go_sem] at hb; done) | (simp (disch := omega) only [go_sem] at hb; try omega) | try omega)
      | (refine Zl ?_; intro bn hnil; (try simp (disch := omega) only [go_sem] at hnil); dsimp only [putT, List.set_cons_succ, List.set_cons_zero])
    all_goals exact Zrf
theorem set_V {n : Int} {s : HS} {l : List TItem} (c : CView n s l) (id at_ : Int) (hid : -9223372036854775808 ≤ id ∧ id ≤ 9223372036854775807) : ∃ s', CView n s' (setL n l id at_).1 ∧ ∀ {C H a m : Nat}, [C, H, a, m].Nodup → FCall Try.prog 26 [.ptr C 1 0 0, .int .i64 id, .int .i64 at_] (cobs C H a m n s) (.int .i64 (setL n l id at_).2) (cobs C H a m n s') := ⟨_, set_F c id at_ hid⟩

theorem cancel_V {n : Int} {s : HS} {l : List TItem} (c : CView n s l) (id : Int) : ∃ s', CView n s' (removeL l id).1 ∧ ∀ {C H a m : Nat}, [C, H, a, m].Nodup → FCall Try.prog 28 [.ptr C 1 0 0, .int .i64 id] (cobs C H a m n s) (.int .i64 (removeL l id).2) (cobs C H a m n s') := by
  obtain ⟨s', v', c1⟩ := remove_V c.v id
  have c1 := c1 (H := 0) (a := 1) (m := 2) (by decide)
  refine ⟨s', c.remove v', fun hd => FCall.clock (args0 := [.ptr 3 1 0 0, .int .i64 id]) (r0 := .int .i64 (removeL l id).2) ?_ hd (by simp [lfA_leaf, lf_ptr, lf_int]) (.leaf _ (.fz _ (.int _ _))) rfl rfl⟩
  refine HCall_intro (c := Try.f28.body.getD .skip) Try.func28 rfl (by decide +kernel) (W_start ?_)
  simp only [Try.f28, go_sem]
  repeat' first
    | refine Z0 ?_
    | refine Zx ?_
    | refine Zfc c1 ?_
    | (refine Ze ?_; clear hK K)
    | refine W_reg fun K hK => ?_
    | refine W_drwR rfl mixed (by decide +kernel) fun K hK => ?_
    | refine W_drw mixed (by decide +kernel) fun K hK => ?_
    | (refine Zb ?_ ?_ <;> intro hb <;> first | (simp (disch := omega) only [go_sem] at hb; done) | (simp (disch := omega) only [go_sem] at hb; try omega) | try omega)
    | (refine Zl ?_; intro bn hnil; (try simp (disch := omega) only [go_sem] at hnil); dsimp only [putT, List.set_cons_succ, List.set_cons_zero])
  exact Zrf

theorem now_V {n : Int} {s : HS} {C H a m : Nat} (hd : [C, H, a, m].Nodup) : FCall Try.prog 22 [.ptr C 1 0 0] (cobs C H a m n s) (.int .i64 n) (cobs C H a m n s) := by
  refine FCall.clock (args0 := [.ptr 3 1 0 0]) (r0 := .int .i64 n) ?_ hd (by simp [lfA_leaf, lf_ptr, lf_int]) (.leaf _ (.fz _ (.int _ _))) rfl rfl
  refine HCall_intro (c := Try.f22.body.getD .skip) Try.func22 rfl (by decide +kernel) (W_start ?_)
  simp only [Try.f22, go_sem]
  repeat' first
    | refine Z0 ?_
    | refine Zx ?_
    | (refine Ze ?_; clear hK K)
    | refine W_reg fun K hK => ?_
    | refine W_drwR rfl mixed (by decide +kernel) fun K hK => ?_
    | refine W_drw mixed (by decide +kernel) fun K hK => ?_
    | (refine Zb ?_ ?_ <;> intro hb <;> first | (simp (disch := omega) only [go_sem] at hb; done) | (simp (disch := omega) only [go_sem] at hb; try omega) | try omega)
    | (refine Zl ?_; intro bn hnil; (try simp (disch := omega) only [go_sem] at hnil); dsimp only [putT, List.set_cons_succ, List.set_cons_zero])
  exact Zrf

theorem left_V {n : Int} {s : HS} {l : List TItem} (c : CView n s l) {C H a m : Nat} (hd : [C, H, a, m].Nodup) : FCall Try.prog 27 [.ptr C 1 0 0] (cobs C H a m n s) (.int .i64 l.length) (cobs C H a m n s) := by
  have c1 := len_V c.v (H := 0) (a := 1) (m := 2) (by decide)
  refine FCall.clock (args0 := [.ptr 3 1 0 0]) (r0 := .int .i64 l.length) ?_ hd (by simp [lfA_leaf, lf_ptr, lf_int]) (.leaf _ (.fz _ (.int _ _))) rfl rfl
  refine HCall_intro (c := Try.f27.body.getD .skip) Try.func27 rfl (by decide +kernel) (W_start ?_)
  simp only [Try.f27, go_sem]
  repeat' first
    | refine Z0 ?_
    | refine Zx ?_
    | refine Zfc c1 ?_
    | (refine Ze ?_; clear hK K)
    | refine W_reg fun K hK => ?_
    | refine W_drwR rfl mixed (by decide +kernel) fun K hK => ?_
    | refine W_drw mixed (by decide +kernel) fun K hK => ?_
    | (refine Zb ?_ ?_ <;> intro hb <;> first | (simp (disch := omega) only [go_sem] at hb; done) | (simp (disch := omega) only [go_sem] at hb; try omega) | try omega)
    | (refine Zl ?_; intro bn hnil; (try simp (disch := omega) only [go_sem] at hnil); dsimp only [putT, List.set_cons_succ, List.set_cons_zero])
  exact Zrf

theorem next0_ok {n : Int} {s : HS} {l : List TItem} (v : View s l) (hk0 : ∀ y, y ∈ l → 0 ≤ y.key ∧ y.key ≤ 1099511627776) : HCall Try.prog 29 [.ptr 3 1 0 0] (cobs 3 0 1 2 n s) 4 (fun r h _ => r = dueV (nextL l) ∧ h = cobs 3 0 1 2 n s) := by
  have c1 := peek_V v (H := 0) (a := 1) (m := 2) (by decide)
  cases l with
  | nil =>
    rw [show peekL [] = (zItem, false) from rfl] at c1
    refine HCall_intro (c := Try.f29.body.getD .skip) Try.func29 rfl (by decide +kernel) (W_start ?_)
    simp only [Try.f29, go_sem]
    repeat' first
      | refine Z0 ?_
      | refine Zx ?_
      | refine Zfc c1 ?_
      | (refine Ze ?_; clear hK K)
      | refine W_reg fun K hK => ?_
      | refine W_drwR rfl mixed (by decide +kernel) fun K hK => ?_
      | refine W_drw mixed (by decide +kernel) fun K hK => ?_
      | (refine Zb ?_ ?_ <;> intro hb <;> first | (simp (disch := omega) only [go_sem] at hb; done) | (simp (disch := omega) only [go_sem] at hb; try omega) | try omega)
      | (refine Zl ?_; intro bn hnil; (try simp (disch := omega) only [go_sem] at hnil); dsimp only [putT, List.set_cons_succ, List.set_cons_zero])
    exact Zrf
  | cons x l =>
    rw [show peekL (x :: l) = (x, true) from rfl] at c1
    have hk := hk0 x (List.mem_cons_self ..)
    refine HCall_intro (c := Try.f29.body.getD .skip) Try.func29 rfl (by decide +kernel) (W_start ?_)
    simp only [Try.f29, go_sem]
    repeat' first
      | refine Z0 ?_
      | refine Zx ?_
      | refine Zfc c1 ?_
      | (refine Ze ?_; clear hK K)
      | refine W_reg fun K hK => ?_
      | refine W_drwR rfl mixed (by decide +kernel) fun K hK => ?_
      | refine W_drw mixed (by decide +kernel) fun K hK => ?_
      | (refine Zb ?_ ?_ <;> intro hb <;> first | (simp (disch := omega) only [go_sem] at hb; done) | (simp (disch := omega) only [go_sem] at hb; try omega) | try omega)
      | (refine Zl ?_; intro bn hnil; (try simp (disch := omega) only [go_sem] at hnil); dsimp only [putT, List.set_cons_succ, List.set_cons_zero])
    exact Zrf

theorem next_F {n : Int} {s : HS} {l : List TItem} (v : View s l) (hk : ∀ y, y ∈ l → 0 ≤ y.key ∧ y.key ≤ 1099511627776) {C H a m : Nat} (hd : [C, H, a, m].Nodup) : FCall Try.prog 29 [.ptr C 1 0 0] (cobs C H a m n s) (dueV (nextL l)) (cobs C H a m n s) :=
  FCall.clock (next0_ok v hk) hd (by simp [lfA_leaf, lf_ptr, lf_int]) (lfA_tup _ _ (by simp [lf_bool, lf_aggE])) rfl rfl
theorem next_V {n : Int} {s : HS} {l : List TItem} (c : CView n s l) {C H a m : Nat} (hd : [C, H, a, m].Nodup) : FCall Try.prog 29 [.ptr C 1 0 0] (cobs C H a m n s) (dueV (nextL l)) (cobs C H a m n s) :=
  next_F c.v (fun y hy => ⟨by have := c.lo; have := c.key y hy; omega, (c.key y hy).2⟩) hd

end Go.Proofs.Ytfbmbjfcgoahfaa
