/-
  The clock: Advance; of nil; ClockNil; walked.
-/
import Derived.Test.YtfbmbjfcgoahfaaF6
namespace Go.Proofs.Ytfbmbjfcgoahfaa
open Go Go.AM
set_option maxHeartbeats 4000000
set_option maxRecDepth 8000
set_option linter.unusedSimpArgs false
set_option linter.unusedVariables false

def popsS : Nat → HS → HS
  | 0, s => s
  | k + 1, s => popsS k (popS s).1

theorem late_drop {l : List TItem} (h : Sorted l) (to : Int) : ∀ y, y ∈ l.dropWhile (dueB to) → to < y.key := by
  induction l with
  | nil => intro y hy; cases hy
  | cons x l ih =>
    unfold Sorted at h
    rw [List.pairwise_cons] at h
    rw [List.dropWhile_cons]
    cases hb : dueB to x with
    | true => simp only [if_true]; exact ih h.2
    | false =>
      simp only [Bool.false_eq_true, if_false]
      have hx : to < x.key := by simpa [dueB] using hb
      intro y hy
      rcases List.mem_cons.1 hy with rfl | hy
      · exact hx
      · have := h.1 y hy
        rw [goes_t] at this
        omega

theorem pops_view (to : Int) : ∀ (l : List TItem) (s : HS), View s l → View (popsS (l.takeWhile (dueB to)).length s) (l.dropWhile (dueB to))
  | [], s, v => v
  | x :: l, s, v => by
    rw [List.takeWhile_cons, List.dropWhile_cons]
    cases hb : dueB to x with
    | true =>
      simp only [if_true, List.length_cons]
      exact pops_view to l _ v.pop.1
    | false =>
      simp only [Bool.false_eq_true, if_false]
      exact v

abbrev advV (r : List TDue × Int) : AVal := .tuple [.sl (rws r.1) none, .int .i64 r.2]

theorem adv0_ok {n : Int} {s : HS} {l : List TItem} (c : CView n s l) (to : Int) (h0 : ¬ (to < n ∨ to > 1099511627776)) :
    HCall Try.prog 23 [.ptr 3 1 0 0, .int .i64 to] (cobs 3 0 1 2 n s) 4 (fun r h _ => r = advV ((l.takeWhile (dueB to)).map dueOf, 0) ∧ h = cobs 3 0 1 2 to (popsS (l.takeWhile (dueB to)).length s)) := by
  have hlo := c.lo
  have hlen := c.v.n
  have hln := c.v.g.le
  have hlx := c.v.g.len
  refine HCall_intro (c := Try.f23.body.getD .skip) Try.func23 rfl (by decide +kernel) (W_start ?_)
  simp only [Try.f23, go_sem]
  repeat' first
    | refine Z0 ?_
    | refine Zx ?_
    | (refine Ze ?_; clear hK K)
    | refine W_reg fun K hK => ?_
    | refine W_drwR rfl mixed (by decide +kernel) fun K hK => ?_
    | refine W_drw mixed (by decide +kernel) fun K hK => ?_
    | (refine Zb ?_ ?_ <;> intro hb <;> first | (simp (disch := omega) only [go_sem] at hb; done) | (simp (disch := omega) only [go_sem] at hb; try omega) | try omega)
    | (refine Zl ?_; intro bn hnil; (try simp (disch := omega) only [go_sem] at hnil); dsimp only [putT, List.set_cons_succ, List.set_cons_zero])
  all_goals
    (apply W_unbornAt 6 2; (case ht => exact rfl); (case e => exact sT); (case hn => exact nT))
    refine W_foldM (fun (a : HS × List TItem × List TDue) => [none, none, none, none, some .junk, some .junk, some (.ref 24 a.2.2.length 0 a.2.2.length false a.2.2.length), some .junk, some .junk, none, none, none, none, none, none, none, none, none, none, none, none, none, none, none, none, some .junk, some .junk, some .junk, some .junk, some .junk, some .junk, some .junk, some .junk, some .junk, some .junk, some .junk, some .junk, some .junk, some .junk, some .junk, some .junk, some .junk, some .junk, some .junk, some .junk, some .junk, some .junk, some .junk]) (fun a => (24, .arr 2 (rws a.2.2)) :: cobs 3 0 1 2 to a.1)
      (fun a => View a.1 a.2.1 ∧ (∀ y, y ∈ a.2.1 → 0 ≤ y.key ∧ y.key ≤ 1099511627776) ∧ a.2.2 ++ (a.2.1.takeWhile (dueB to)).map dueOf = (l.takeWhile (dueB to)).map dueOf ∧ popsS (a.2.1.takeWhile (dueB to)).length a.1 = popsS (l.takeWhile (dueB to)).length s ∧ a.2.2.length + a.2.1.length ≤ 4096)
      (fun a => a.2.1.length) (s, l, []) ⟨c.v, fun y hy => ⟨by have := c.key y hy; omega, (c.key y hy).2⟩, rfl, rfl, by simp; omega⟩ (by exact weak_mk wkD wkH wkN wkM (by omega)) ?_
    rintro ⟨t, m, out⟩ ⟨v, hk, h1, h2, h3⟩
    simp only [] at v hk h1 h2 h3
    simp only [msk_none, msk_some, msk_nil]
    cases m with
    | nil =>
      have c1 := next_F (n := to) v hk (C := 3) (H := 0) (a := 1) (m := 2) (by decide)
      rw [show nextL [] = (zDue, false) from rfl] at c1
      simp only [List.takeWhile_nil, List.map_nil, List.append_nil] at h1
      have h2 : t = popsS (l.takeWhile (dueB to)).length s := h2
      subst h1 h2
      (apply W_frzI 24 ((l.takeWhile (dueB to)).map dueOf) (((l.takeWhile (dueB to)).map dueOf).length); (case hl => simp only [go_sem]; exact rfl); (case e => first | rfl | (simp; done) | (simp [rws, Enc.enc]; done)); (case hn => first | rfl | (simp; done) | omega); (case e1 => exact subT); (case e2 => exact subU))
      repeat' first
        | refine Z0 ?_
        | refine Zx ?_
        | refine Zfc c1 ?_
        | (refine Ze ?_; clear hK K)
        | refine W_reg fun K hK => ?_
        | refine W_drwR rfl mixed (by decide +kernel) fun K hK => ?_
        | refine W_drw mixed (by decide +kernel) fun K hK => ?_
        | (refine Zb ?_ ?_ <;> intro hb <;> first | (simp (disch := omega) only [go_sem] at hb; done) | (simp (disch := omega) only [go_sem] at hb; try omega) | try omega)
        | (refine Zl ?_; intro bn hnil; (try simp (disch := omega) only [go_sem] at hnil); dsimp only [putT, List.set_cons_succ, List.set_cons_zero])
      exact Zrf
    | cons x m =>
      have c1 := next_F (n := to) v hk (C := 3) (H := 0) (a := 1) (m := 2) (by decide)
      rw [show nextL (x :: m) = (dueOf x, true) from rfl] at c1
      simp only [dueOf] at c1
      have hx := hk x (List.mem_cons_self ..)
      rw [List.takeWhile_cons] at h1 h2
      by_cases hb : x.key ≤ to
      · have hb2 : dueB to x = true := by simp [dueB, hb]
        rw [hb2] at h1 h2
        simp only [if_true, List.map_cons, List.length_cons] at h1 h2 h3
        obtain ⟨v', e'⟩ := v.pop
        have c2 := e' ▸ pop_F t v.g (H := 0) (a := 1) (m := 2) (by decide)
        have r1 := rws_snoc out (dueOf x)
        simp only [enc_TDue, dueOf] at r1
        have zz1 := r1
        repeat' first
          | refine Z1 ?_
          | refine Zx ?_
          | refine Zfc c1 ?_
          | refine Zfc c2 ?_
          | (refine Ze ?_; clear hK K)
          | refine W_reg fun K hK => ?_
          | refine W_drwR rfl mixed (by decide +kernel) fun K hK => ?_
          | refine W_drw mixed (by decide +kernel) fun K hK => ?_
          | (refine Zb ?_ ?_ <;> intro hb <;> first | (simp (disch := omega) only [go_sem, zz1] at hb; done) | (simp (disch := omega) only [go_sem, zz1] at hb; try omega) | try omega)
          | (refine Zl ?_; intro bn hnil; (try simp (disch := omega) only [go_sem, zz1] at hnil); dsimp only [putT, List.set_cons_succ, List.set_cons_zero])
        exact L_next ⟨((popS t).1, m, out ++ [dueOf x]), by simp, ⟨v', fun y hy => hk y (List.mem_cons_of_mem _ hy), by simp only [List.append_assoc, List.singleton_append]; exact h1, h2, by simp; omega⟩, (by exact weak_mk wkD wkH wkN wkM (by omega))⟩
      · have hb2 : dueB to x = false := by simp [dueB]; omega
        rw [hb2] at h1 h2
        simp only [Bool.false_eq_true, if_false, List.map_nil, List.append_nil, List.length_nil] at h1 h2
        have h2 : t = popsS (l.takeWhile (dueB to)).length s := h2
        subst h1 h2
        (apply W_frzI 24 ((l.takeWhile (dueB to)).map dueOf) (((l.takeWhile (dueB to)).map dueOf).length); (case hl => simp only [go_sem]; exact rfl); (case e => first | rfl | (simp; done) | (simp [rws, Enc.enc]; done)); (case hn => first | rfl | (simp; done) | omega); (case e1 => exact subT); (case e2 => exact subU))
        repeat' first
          | refine Z0 ?_
          | refine Zx ?_
          | refine Zfc c1 ?_
          | (refine Ze ?_; clear hK K)
          | refine W_reg fun K hK => ?_
          | refine W_drwR rfl mixed (by decide +kernel) fun K hK => ?_
          | refine W_drw mixed (by decide +kernel) fun K hK => ?_
          | (refine Zb ?_ ?_ <;> intro hb <;> first | (simp (disch := omega) only [go_sem] at hb; done) | (simp (disch := omega) only [go_sem] at hb; try omega) | try omega)
          | (refine Zl ?_; intro bn hnil; (try simp (disch := omega) only [go_sem] at hnil); dsimp only [putT, List.set_cons_succ, List.set_cons_zero])
        exact Zrf

theorem adv_V {n : Int} {s : HS} {l : List TItem} (c : CView n s l) (to : Int) : ∃ s', CView (advL n l to).1 s' (advL n l to).2.1 ∧ ∀ {C H a m : Nat}, [C, H, a, m].Nodup → FCall Try.prog 23 [.ptr C 1 0 0, .int .i64 to] (cobs C H a m n s) (advV (advL n l to).2.2) (cobs C H a m (advL n l to).1 s') := by
  have hlo := c.lo
  by_cases h : to < n ∨ to > 1099511627776
  · have e : advL n l to = (n, l, [], 1) := by unfold advL; rw [if_pos h]
    rw [e]
    refine ⟨s, c, fun hd => (FCall.clock (args0 := [.ptr 3 1 0 0, .int .i64 to]) (r0 := .tuple [.sl [] (some 0), .int .i64 1]) ?_ hd (by simp [lfA_leaf, lf_ptr, lf_int]) (lfA_tup _ _ (by simp [lf_nil, lf_int])) rfl rfl).res (.tupleC (.cons (.slR .nil) (.cons (.refl _) .nil)))⟩
    refine HCall_intro (c := Try.f23.body.getD .skip) Try.func23 rfl (by decide +kernel) (W_start ?_)
    simp only [Try.f23, go_sem]
    repeat' first
      | refine Z0 ?_
      | refine Zx ?_
      | (refine Ze ?_; clear hK K)
      | refine W_reg fun K hK => ?_
      | refine W_drwR rfl mixed (by decide +kernel) fun K hK => ?_
      | refine W_drw mixed (by decide +kernel) fun K hK => ?_
      | (refine Zb ?_ ?_ <;> intro hb <;> first | (simp (disch := omega) only [go_sem] at hb; done) | (simp (disch := omega) only [go_sem] at hb; try omega) | try omega)
      | (refine Zl ?_; intro bn hnil; (try simp (disch := omega) only [go_sem] at hnil); dsimp only [putT, List.set_cons_succ, List.set_cons_zero])
    all_goals exact Zrf
  · have e : advL n l to = (to, l.dropWhile (dueB to), (l.takeWhile (dueB to)).map dueOf, 0) := by unfold advL; rw [if_neg h]
    rw [e]
    refine ⟨popsS (l.takeWhile (dueB to)).length s, ⟨pops_view to l s c.v, by omega, by omega, fun y hy => ⟨late_drop c.v.srt to y hy, (c.key y ((List.dropWhile_suffix _).subset hy)).2⟩⟩, fun hd => ?_⟩
    exact FCall.clock (adv0_ok c to h) hd (by simp [lfA_leaf, lf_ptr, lf_int]) (lfA_tup _ _ (by simp [lf_rws, lf_int])) rfl rfl

end Go.Proofs.Ytfbmbjfcgoahfaa
