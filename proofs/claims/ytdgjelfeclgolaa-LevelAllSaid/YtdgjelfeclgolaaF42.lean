/-
  The reference's level: Late; walked.
-/
import Derived.Test.YtdgjelfeclgolaaF41
import Derived.Test.YtdgjelfeclgolaaM25
namespace Go.Proofs.Ytdgjelfeclgolaa
open Go Go.AM
set_option maxHeartbeats 8000000
set_option maxRecDepth 8000
set_option linter.unusedSimpArgs false
set_option linter.unusedVariables false

/-- A state of which the lanes lie in an object. -/
abbrev stG (s : TState) (r : AVal) : AVal := .agg [.str s.level.name, .int .i64 s.level.kind, .int .i64 s.level.shares, .int .i64 s.level.lend, .int .i64 s.level.borrow, .int .i64 s.level.queues, .int .i64 s.level.hand, .int .i64 s.level.length, .int .i64 s.level.wait, .int .i64 s.level.guess,
  .bool s.quiet, .int .i64 s.limit, .int .i64 s.bound.nominal, .int .i64 s.bound.min, .int .i64 s.bound.max, .int .i64 s.demand.high, .int .i64 s.demand.smooth, .int .u64 s.fair.r, .int .i64 s.fair.guess, .int .i64 s.fair.length, .int .i64 s.fair.open_, r, .sl (rws s.running) none]
abbrev rwG (s : TState) (r : AVal) : List AVal := [.str s.level.name, .int .i64 s.level.kind, .int .i64 s.level.shares, .int .i64 s.level.lend, .int .i64 s.level.borrow, .int .i64 s.level.queues, .int .i64 s.level.hand, .int .i64 s.level.length, .int .i64 s.level.wait, .int .i64 s.level.guess,
  .bool s.quiet, .int .i64 s.limit, .int .i64 s.bound.nominal, .int .i64 s.bound.min, .int .i64 s.bound.max, .int .i64 s.demand.high, .int .i64 s.demand.smooth, .int .u64 s.fair.r, .int .i64 s.fair.guess, .int .i64 s.fair.length, .int .i64 s.fair.open_, r, .sl (rws s.running) none]

theorem stateG1 (s : TState) (k : Nat) : Nat1 fun j => stG s (.ref j k 0 k false k) := by
  refine Nat1.agg [fun _ => .str s.level.name, fun _ => .int .i64 s.level.kind, fun _ => .int .i64 s.level.shares, fun _ => .int .i64 s.level.lend, fun _ => .int .i64 s.level.borrow, fun _ => .int .i64 s.level.queues, fun _ => .int .i64 s.level.hand, fun _ => .int .i64 s.level.length, fun _ => .int .i64 s.level.wait, fun _ => .int .i64 s.level.guess,
    fun _ => .bool s.quiet, fun _ => .int .i64 s.limit, fun _ => .int .i64 s.bound.nominal, fun _ => .int .i64 s.bound.min, fun _ => .int .i64 s.bound.max, fun _ => .int .i64 s.demand.high, fun _ => .int .i64 s.demand.smooth, fun _ => .int .u64 s.fair.r, fun _ => .int .i64 s.fair.guess, fun _ => .int .i64 s.fair.length, fun _ => .int .i64 s.fair.open_, fun j => .ref j k 0 k false k, fun _ => .sl (rws s.running) none] fun c hc => ?_
  simp only [List.mem_cons, List.not_mem_nil, or_false] at hc
  rcases hc with rfl | rfl | rfl | rfl | rfl | rfl | rfl | rfl | rfl | rfl | rfl | rfl | rfl | rfl | rfl | rfl | rfl | rfl | rfl | rfl | rfl | rfl | rfl
  · exact .const _ (.str _)
  all_goals first | exact .const _ (.int _ _) | exact .const _ (.bool _) | exact .const _ (rws_fz _ _) | exact .ref _ _ _ _ _

theorem scopyG_ok (s : TState) (hf : okF 1000 1000 s.fair) (hr : s.running.length ≤ 2000000) : PNew Try.prog 65 [.agg (Enc.enc s)] (fun j => stG s (.ref j s.fair.lanes.length 0 s.fair.lanes.length false s.fair.lanes.length)) (.arr 2 (rws s.fair.lanes)) := by
  have c1 := fcopy_ok s.fair hf
  refine PNew_body (c := Try.f65.body.getD .skip) Try.func65 rfl (by decide +kernel) Zf (stateG1 _ _) (rws_mem _) (W_start ?_)
  simp only [Try.f65, go_sem]
  repeat' first | refine Z0 ?_ | refine Zx ?_ | refine Zw c1 ?_ | (refine Ze ?_; clear hK K) | refine W_regNe 3 (by decide) fun K hK => ?_ | refine W_drwRNe 3 (by decide) rfl mixed (by decide +kernel) fun K hK => ?_ | refine W_drwNe 3 (by decide) mixed (by decide +kernel) fun K hK => ?_ | (refine Zb ?_ ?_ <;> intro hb <;> first | (simp (disch := omega) only [go_sem] at hb; done) | (simp (disch := omega) only [go_sem] at hb; try omega) | try omega) | (refine Zl ?_; intro bn hnil; (try simp (disch := omega) only [go_sem] at hnil); dsimp only [putT, List.set_cons_succ, List.set_cons_zero])
  (apply W_frzI 7 (s.running) (s.running.length); (case hl => simp only [go_sem]; exact rfl); (case e => first | rfl | (simp; done) | (simp [rws, Enc.enc]; done)); (case hn => first | rfl | (simp; done) | omega); (case e1 => exact subT); (case e2 => exact subU))
  repeat' first | refine Z0 ?_ | refine Zx ?_ | (refine Ze ?_; clear hK K) | refine W_reg fun K hK => ?_ | refine W_drwR rfl mixed (by decide +kernel) fun K hK => ?_ | refine W_drw mixed (by decide +kernel) fun K hK => ?_ | (refine Zb ?_ ?_ <;> intro hb <;> first | (simp (disch := omega) only [go_sem] at hb; done) | (simp (disch := omega) only [go_sem] at hb; try omega) | try omega) | (refine Zl ?_; intro bn hnil; (try simp (disch := omega) only [go_sem] at hnil); dsimp only [putT, List.set_cons_succ, List.set_cons_zero])
  exact Zrw

theorem lfO_rwG (s : TState) (j n : Nat) (S : Nat → Prop) (h : S j) : LfO S (.arr 23 [rwG s (.ref j n 0 n false n)]) := by
  intro r hr c hc
  simp only [List.mem_cons, List.not_mem_nil, or_false] at hr
  subst hr
  simp only [List.mem_cons, List.not_mem_nil, or_false] at hc
  rcases hc with rfl | rfl | rfl | rfl | rfl | rfl | rfl | rfl | rfl | rfl | rfl | rfl | rfl | rfl | rfl | rfl | rfl | rfl | rfl | rfl | rfl | rfl | rfl
  · exact .fz _ (.str _)
  all_goals first | exact .fz _ (.int _ _) | exact .fz _ (.bool _) | exact .fz _ (rws_fz _ _) | exact .ref _ _ _ _ _ _ h
theorem lfO_zrow (S : Nat → Prop) : LfO S (.arr 23 [zrow]) := by
  intro r hr c hc
  simp only [List.mem_cons, List.not_mem_nil, or_false] at hr
  subst hr
  simp only [List.mem_cons, List.not_mem_nil, or_false] at hc
  rcases hc with rfl | rfl | rfl | rfl | rfl | rfl | rfl | rfl | rfl | rfl | rfl | rfl | rfl | rfl | rfl | rfl | rfl | rfl | rfl | rfl | rfl | rfl | rfl
  · exact .fz _ (.str _)
  all_goals first | exact .fz _ (.int _ _) | exact .fz _ (.bool _) | exact .fz _ (.sl _ _ (by simp))

theorem slate_ok (s : TState) (now : Int) (hf : okF 1000 1000 s.fair) (hr : s.running.length ≤ 2000000) : PCall Try.prog 81 [.agg (Enc.enc s), .int .i64 now] (· = stL (llate s now)) := by
  have c0 := scopyG_ok s hf hr
  obtain ⟨R1, R2, hR1, hR2, hR⟩ : ∃ R1 R2, (lateR s.fair now).1 = R1 ∧ (lateR s.fair now).2 = R2 ∧ llate s now = (withFair s R1, R2) := ⟨_, _, rfl, rfl, rfl⟩
  rw [hR]
  have htot := lateL_le hf now
  refine PCall_intro (c := Try.f81.body.getD .skip) Try.func81 rfl (by decide +kernel) Zf (W_start ?_)
  simp only [Try.f81, go_sem]
  repeat' first | refine Z0 ?_ | refine Zx ?_ | refine Zw c0 ?_ | (refine Ze ?_; clear hK K) | refine W_reg fun K hK => ?_ | refine W_drwR rfl mixed (by decide +kernel) fun K hK => ?_ | refine W_drw mixed (by decide +kernel) fun K hK => ?_ | (refine Zb ?_ ?_ <;> intro hb <;> first | (simp (disch := omega) only [go_sem] at hb; done) | (simp (disch := omega) only [go_sem] at hb; try omega) | try omega) | (refine Zl ?_; intro bn hnil; (try simp (disch := omega) only [go_sem] at hnil); dsimp only [putT, List.set_cons_succ, List.set_cons_zero])
  (apply W_unbornAt 7 5; (case ht => exact rfl); (case e => exact sT); (case hn => exact nT))
  refine W_foldM (fun (a : TFair × List TTicket) => [some (.junk), none, some (.junk), none, none, some .junk, none, some (.ref 8 a.2.length 0 a.2.length false a.2.length), some .junk, some .junk, some .junk, some .junk, some .junk, some .junk, some .junk, some .junk, some (.junk), some (.junk), some .junk, some .junk, some .junk, some .junk, some .junk, some .junk, some .junk, some .junk, some .junk, some .junk, some .junk, some .junk, some .junk, some .junk, some .junk, some .junk, some .junk, some .junk, some .junk, some .junk, some .junk, some .junk, some .junk, some .junk, some .junk, some .junk, some .junk, some .junk, some .junk, some .junk, some .junk, some .junk, some .junk, some .junk, some .junk, some .junk, some .junk, some .junk, some .junk, some .junk, some .junk, some .junk, some .junk, some .junk, some .junk, some .junk, some .junk, some .junk, some .junk, some .junk, some .junk, some .junk, some .junk, some .junk, some .junk, some .junk, some .junk, some .junk, some .junk, some .junk, some .junk, some .junk, some .junk, some .junk, some .junk, some .junk, some .junk, some .junk, some .junk, some .junk, some .junk, some .junk, some .junk, some .junk, some .junk, some .junk, some .junk, some .junk, some .junk, some .junk, some .junk, some .junk, some .junk, some .junk, some .junk, some .junk, some .junk, some .junk, some .junk, some .junk, some .junk, some .junk, some .junk, some .junk, some .junk, some .junk, some .junk, some .junk, some .junk, some .junk, some .junk, some .junk, some .junk, some .junk, some .junk, some .junk, some .junk, some .junk, some .junk, some .junk, some .junk, some .junk, some .junk, some .junk, some .junk, some .junk, some .junk, some .junk, some .junk, some .junk, some .junk, some .junk, some .junk, some .junk, some .junk, some .junk, some .junk])
    (fun a => [(8, .arr 5 (rws a.2)), (5, .arr 23 [rwG (withFair s a.1) (.ref 4 a.1.lanes.length 0 a.1.lanes.length false a.1.lanes.length)]), (4, .arr 2 (rws a.1.lanes)), (1, .arr 23 [zrow])])
    (fun a => okF 1000 1000 a.1 ∧ (lateR a.1 now).1 = R1 ∧ a.2 ++ (lateR a.1 now).2 = R2 ∧ a.2.length + (lateL a.1 now).length ≤ 1000000) (fun a => (lateL a.1 now).length) (s.fair, []) ⟨hf, hR1, hR2, by simp only [List.length_nil]; omega⟩ (by exact weak_mk wkD wkH wkN wkM (by omega)) ?_
  clear hR1 hR2 hR c0 htot
  rintro ⟨f, out⟩ ⟨k1, k2, k3, k4⟩
  simp only [] at k1 k2 k3 k4
  have hn := k1.1
  simp only [msk_none, msk_some, msk_nil]
  repeat' first | refine Z0 ?_ | refine Zx ?_ | (refine Ze ?_; clear hK K) | refine W_reg fun K hK => ?_ | refine W_drwR rfl mixed (by decide +kernel) fun K hK => ?_ | refine W_drw mixed (by decide +kernel) fun K hK => ?_ | (refine Zb ?_ ?_ <;> intro hb <;> first | (simp (disch := omega) only [go_sem] at hb; done) | (simp (disch := omega) only [go_sem] at hb; try omega) | try omega) | (refine Zl ?_; intro bn hnil; (try simp (disch := omega) only [go_sem] at hnil); dsimp only [putT, List.set_cons_succ, List.set_cons_zero])
  refine W_foldK (fun (a : Nat × Int × Int) => [none, none, none, none, none, none, none, none, some (.int .i64 a.2.1), some (.int .i64 a.2.2), some (.int .i64 a.1), some .junk, some .junk, none, none, none, none, none, some .junk, some .junk, some .junk, some .junk, some .junk, some .junk, some .junk, some .junk, some .junk, some .junk, some .junk, some .junk, some .junk, some .junk, some .junk, some .junk, some .junk, some .junk, some .junk, some .junk, some .junk, some .junk, some .junk, some .junk, some .junk, some .junk, some .junk, some .junk, some .junk, some .junk, some .junk, some .junk, some .junk, some .junk, some .junk, some .junk, some .junk, some .junk, some .junk, some .junk, some .junk, some .junk, some .junk, some .junk, some .junk, some .junk, some .junk, some .junk, some .junk, some .junk, some .junk, some .junk, some .junk]) (fun a => a.1 ≤ f.lanes.length ∧ Best f now a.1 0 a.2.1 a.2.2) (fun a => f.lanes.length - a.1) (0, -1, -1) ⟨by simp, best_zero f now⟩ (by exact weak_mk wkD wkH wkN wkM (by omega)) ?_
  rintro ⟨k, la, ix⟩ ⟨hk, hb⟩
  simp only [] at hk hb
  simp only [msk_none, msk_some, msk_nil]
  rcases Nat.lt_or_ge k f.lanes.length with h4 | h4
  · obtain ⟨l, hl⟩ := some_of_lt h4
    have hw := (k1.2 l (List.mem_of_getElem? hl)).2
    have zz1 := rws_get hl
    repeat' first | refine Z1 ?_ | refine Zx ?_ | (refine Ze ?_; clear hK K) | refine W_reg fun K hK => ?_ | refine W_drwR rfl mixed (by decide +kernel) fun K hK => ?_ | refine W_drw mixed (by decide +kernel) fun K hK => ?_ | (refine Zb ?_ ?_ <;> intro hb <;> first | (simp (disch := omega) only [go_sem, zz1] at hb; done) | (simp (disch := omega) only [go_sem, zz1] at hb; try omega) | try omega) | (refine Zl ?_; intro bn hnil; (try simp (disch := omega) only [go_sem, zz1] at hnil); dsimp only [putT, List.set_cons_succ, List.set_cons_zero])
    refine W_foldK (fun (a : Nat × Int × Int) => [none, none, none, none, none, none, none, none, some (.int .i64 a.2.1), some (.int .i64 a.2.2), none, none, some (.int .i64 a.1), none, none, none, none, none, none, none, none, none, none, none, none, none, none, none, none, none, none, none, none, some .junk, some .junk, some .junk, some .junk, some .junk, some .junk, some .junk, some .junk, some .junk, some .junk, some .junk, some .junk, some .junk, some .junk, some .junk, some .junk, some .junk, some .junk, some .junk, some .junk, some .junk, some .junk, some .junk, some .junk, some .junk, some .junk, some .junk, some .junk, some .junk, some .junk, some .junk, some .junk, some .junk, some .junk, some .junk, some .junk, some .junk, some .junk]) (fun a => a.1 ≤ l.wait.length ∧ Best f now k a.1 a.2.1 a.2.2) (fun a => l.wait.length - a.1) (0, la, ix) ⟨by simp, hb⟩ (by exact weak_mk wkD wkH wkN wkM (by omega)) ?_
    clear hb
    rintro ⟨i, la, ix⟩ ⟨hi, hb⟩
    simp only [] at hi hb
    simp only [msk_none, msk_some, msk_nil]
    rcases Nat.lt_or_ge i l.wait.length with h5 | h5
    · obtain ⟨x, hx⟩ := some_of_lt h5
      by_cases hu : x.until_ ≤ now
      · rcases best_get hb with ⟨rfl, rfl⟩ | ⟨a, b, l', m, rfl, rfl, ha, hb2, hm⟩
        · have hbb := best_take hl hx hu hb (by intro a b l' m h; omega)
          have zz1 := rws_get hl
          have zz2 := rws_get hx
          repeat' first | refine Z2 ?_ | refine Zx ?_ | (refine Ze ?_; clear hK K) | refine W_reg fun K hK => ?_ | refine W_drwR rfl mixed (by decide +kernel) fun K hK => ?_ | refine W_drw mixed (by decide +kernel) fun K hK => ?_ | (refine Zb ?_ ?_ <;> intro hb <;> first | (simp (disch := omega) only [go_sem, zz1, zz2] at hb; done) | (simp (disch := omega) only [go_sem, zz1, zz2] at hb; try omega) | try omega) | (refine Zl ?_; intro bn hnil; (try simp (disch := omega) only [go_sem, zz1, zz2] at hnil); dsimp only [putT, List.set_cons_succ, List.set_cons_zero])
          all_goals exact L_next ⟨(i + 1, k, i), by simp only []; omega, ⟨by simp only []; omega, hbb⟩, (by exact weak_mk wkD wkH wkN wkM (by omega))⟩
        · have ha1 := (List.getElem?_eq_some_iff.1 ha).1
          have hb1 := (List.getElem?_eq_some_iff.1 hb2).1
          by_cases hq : x.iD < m.iD
          · have hbb := best_take hl hx hu hb (by
              intro a' b' l2 m2 e1 e2 e3 e4
              obtain rfl : a = a' := by omega
              obtain rfl : b = b' := by omega
              rw [ha] at e3
              injection e3 with e3
              subst e3
              rw [hb2] at e4
              injection e4 with e4
              subst e4
              exact hq)
            have zz1 := rws_get hl
            have zz2 := rws_get hx
            have zz3 := rws_get ha
            have zz4 := rws_get hb2
            repeat' first | refine Z4 ?_ | refine Zx ?_ | (refine Ze ?_; clear hK K) | refine W_reg fun K hK => ?_ | refine W_drwR rfl mixed (by decide +kernel) fun K hK => ?_ | refine W_drw mixed (by decide +kernel) fun K hK => ?_ | (refine Zb ?_ ?_ <;> intro hb <;> first | (simp (disch := omega) only [go_sem, zz1, zz2, zz3, zz4] at hb; done) | (simp (disch := omega) only [go_sem, zz1, zz2, zz3, zz4] at hb; try omega) | try omega) | (refine Zl ?_; intro bn hnil; (try simp (disch := omega) only [go_sem, zz1, zz2, zz3, zz4] at hnil); dsimp only [putT, List.set_cons_succ, List.set_cons_zero])
            all_goals exact L_next ⟨(i + 1, k, i), by simp only []; omega, ⟨by simp only []; omega, hbb⟩, (by exact weak_mk wkD wkH wkN wkM (by omega))⟩
          · have hbb := best_keep hl hx ha hb2 hq hb
            have zz1 := rws_get hl
            have zz2 := rws_get hx
            have zz3 := rws_get ha
            have zz4 := rws_get hb2
            repeat' first | refine Z4 ?_ | refine Zx ?_ | (refine Ze ?_; clear hK K) | refine W_reg fun K hK => ?_ | refine W_drwR rfl mixed (by decide +kernel) fun K hK => ?_ | refine W_drw mixed (by decide +kernel) fun K hK => ?_ | (refine Zb ?_ ?_ <;> intro hb <;> first | (simp (disch := omega) only [go_sem, zz1, zz2, zz3, zz4] at hb; done) | (simp (disch := omega) only [go_sem, zz1, zz2, zz3, zz4] at hb; try omega) | try omega) | (refine Zl ?_; intro bn hnil; (try simp (disch := omega) only [go_sem, zz1, zz2, zz3, zz4] at hnil); dsimp only [putT, List.set_cons_succ, List.set_cons_zero])
            all_goals exact L_next ⟨(i + 1, a, b), by simp only []; omega, ⟨by simp only []; omega, hbb⟩, (by exact weak_mk wkD wkH wkN wkM (by omega))⟩
      · have hbb := best_skip hl hx hu hb
        have zz1 := rws_get hl
        have zz2 := rws_get hx
        repeat' first | refine Z2 ?_ | refine Zx ?_ | (refine Ze ?_; clear hK K) | refine W_reg fun K hK => ?_ | refine W_drwR rfl mixed (by decide +kernel) fun K hK => ?_ | refine W_drw mixed (by decide +kernel) fun K hK => ?_ | (refine Zb ?_ ?_ <;> intro hb <;> first | (simp (disch := omega) only [go_sem, zz1, zz2] at hb; done) | (simp (disch := omega) only [go_sem, zz1, zz2] at hb; try omega) | try omega) | (refine Zl ?_; intro bn hnil; (try simp (disch := omega) only [go_sem, zz1, zz2] at hnil); dsimp only [putT, List.set_cons_succ, List.set_cons_zero])
        all_goals exact L_next ⟨(i + 1, la, ix), by simp only []; omega, ⟨by simp only []; omega, hbb⟩, (by exact weak_mk wkD wkH wkN wkM (by omega))⟩
    · obtain rfl : i = l.wait.length := by omega
      have hbb := best_lane hl hb
      repeat' first | refine Z0 ?_ | refine Zx ?_ | (refine Ze ?_; clear hK K) | refine W_reg fun K hK => ?_ | refine W_drwR rfl mixed (by decide +kernel) fun K hK => ?_ | refine W_drw mixed (by decide +kernel) fun K hK => ?_ | (refine Zb ?_ ?_ <;> intro hb <;> first | (simp (disch := omega) only [go_sem] at hb; done) | (simp (disch := omega) only [go_sem] at hb; try omega) | try omega) | (refine Zl ?_; intro bn hnil; (try simp (disch := omega) only [go_sem] at hnil); dsimp only [putT, List.set_cons_succ, List.set_cons_zero])
      all_goals exact L_next ⟨(k + 1, la, ix), by simp only []; omega, ⟨by simp only []; omega, hbb⟩, (by exact weak_mk wkD wkH wkN wkM (by omega))⟩
  · obtain rfl : k = f.lanes.length := by omega
    rcases best_get hb with ⟨rfl, rfl⟩ | ⟨a, b, l, m, rfl, rfl, ha, hb2, hm⟩
    · have e1 := lateR_fin (best_none hb)
      rw [e1] at k2 k3
      simp only [List.append_nil] at k2 k3
      subst k2 k3
      repeat' first | refine Z0 ?_ | refine Zx ?_ | (refine Ze ?_; clear hK K) | refine W_reg fun K hK => ?_ | refine W_drwR rfl mixed (by decide +kernel) fun K hK => ?_ | refine W_drw mixed (by decide +kernel) fun K hK => ?_ | (refine Zb ?_ ?_ <;> intro hb <;> first | (simp (disch := omega) only [go_sem] at hb; done) | (simp (disch := omega) only [go_sem] at hb; try omega) | try omega) | (refine Zl ?_; intro bn hnil; (try simp (disch := omega) only [go_sem] at hnil); dsimp only [putT, List.set_cons_succ, List.set_cons_zero])
      all_goals exact Zr
    · have ha1 := (List.getElem?_eq_some_iff.1 ha).1
      have hb1 := (List.getElem?_eq_some_iff.1 hb2).1
      have hw := (k1.2 l (List.mem_of_getElem? ha)).2
      have r4 := rws_snoc out m
      simp only [enc_TTicket] at r4
      have t1 : ((b : Int) + 1).toNat = b + 1 := by omega
      have r2 : List.take (l.wait.length - (b + 1)) (List.drop (b + 1) (rws l.wait)) = rws (l.wait.drop (b + 1)) := by rw [rws_drop, rws_take, List.take_of_length_le (by simp)]
      have l2 : (l.wait.drop (b + 1)).length = l.wait.length - (b + 1) := by simp
      have r1 : List.take b (rws l.wait) = rws (l.wait.take b) := by rw [rws_take]
      have l1 : (l.wait.take b).length = b := by simp; omega
      have r3 : rws (l.wait.take b) ++ rws (l.wait.drop (b + 1)) = rws (l.wait.take b ++ l.wait.drop (b + 1)) := by rw [rws_append]
      have zz1 := rws_get ha
      have zz2 := rws_get hb2
      have zz3 := r1
      have zz4 := r2
      have zz5 := r3
      have zz6 := r4
      have zz7 := t1
      have zz8 := l1
      have zz9 := l2
      repeat' first | refine Z9 ?_ | refine Zx ?_ | (refine Ze ?_; clear hK K) | refine W_regNe 19 (by decide) fun K hK => ?_ | refine W_drwRNe 19 (by decide) rfl mixed (by decide +kernel) fun K hK => ?_ | refine W_drwNe 19 (by decide) mixed (by decide +kernel) fun K hK => ?_ | (refine Zb ?_ ?_ <;> intro hb <;> first | (simp (disch := omega) only [go_sem, zz1, zz2, zz3, zz4, zz5, zz6, zz7, zz8, zz9] at hb; done) | (simp (disch := omega) only [go_sem, zz1, zz2, zz3, zz4, zz5, zz6, zz7, zz8, zz9] at hb; try omega) | try omega) | (refine Zl ?_; intro bn hnil; (try simp (disch := omega) only [go_sem, zz1, zz2, zz3, zz4, zz5, zz6, zz7, zz8, zz9] at hnil); dsimp only [putT, List.set_cons_succ, List.set_cons_zero])
      (apply W_frzI 36 (l.wait.take b ++ l.wait.drop (b + 1)) (b + (l.wait.length - (b + 1))); (case hl => simp only [go_sem]; exact rfl); (case e => rfl); (case hn => rw [List.length_append, l1, l2]); (case e1 => exact subT); (case e2 => simp only [subH, subO, sub0, List.map_set, rws_sub, go_sem, false_and, true_and, if_true, if_false]; exact rfl))
      have e9 : List.set (rws f.lanes) a [.int .u64 l.start, .sl (rws (l.wait.take b ++ l.wait.drop (b + 1))) none] = rws (f.lanes.set a (cutL l b)) := set_row f.lanes a (cutL l b)
      rw [e9]
      have hG : ftrim (cutF f a b) = ⟨f.r, f.guess, f.length, f.open_, (f.lanes.set a (cutL l b)).take (trimN f.open_ (f.lanes.set a (cutL l b)) (f.lanes.set a (cutL l b)).length)⟩ := by unfold ftrim cutF; rw [getD_of ha]
      have g1 := best_step ha hb2 hb
      have g2 := lateL_len ha hb2 hm
      have g3 := (okF_cut k1 a b).trim
      rw [hG] at g1 g2 g3
      have hL : (f.lanes.set a (cutL l b)).length = f.lanes.length := List.length_set
      generalize hLL : f.lanes.set a (cutL l b) = L at *
      repeat' first | refine Z0 ?_ | refine Zx ?_ | (refine Ze ?_; clear hK K) | refine W_reg fun K hK => ?_ | refine W_drwR rfl mixed (by decide +kernel) fun K hK => ?_ | refine W_drw mixed (by decide +kernel) fun K hK => ?_ | (refine Zb ?_ ?_ <;> intro hb <;> first | (simp (disch := omega) only [go_sem] at hb; done) | (simp (disch := omega) only [go_sem] at hb; try omega) | try omega) | (refine Zl ?_; intro bn hnil; (try simp (disch := omega) only [go_sem] at hnil); dsimp only [putT, List.set_cons_succ, List.set_cons_zero])
      refine W_foldMC (fun (n : Nat) => [none, none, none, none, none, none, none, none, some (.junk), some (.junk), some (.junk), some (.junk), some (.junk), some (.junk), some (.junk), some (.int .i64 n), none, none, some (.junk), some (.junk), some (.junk), some (.junk), some (.junk), some (.junk), some (.junk), some (.junk), some (.junk), some (.junk), some (.junk), some (.junk), some (.junk), some (.junk), some (.junk), some (.junk), some (.junk), some (.junk), some (.junk), some (.junk), some (.junk), some (.junk), some (.junk), some (.junk), some (.junk), some (.junk), some (.junk), some (.junk), some (.junk), some (.junk), some (.junk), some (.junk), some (.junk), some (.junk), some (.junk), some (.junk), some (.junk), some (.junk), some (.junk), some (.junk), some (.junk), some (.junk), some (.junk), some (.junk), some (.junk), some (.junk), some (.junk), some (.junk), some (.junk), some (.junk), some (.junk), some (.junk), some (.junk), some (.junk), some (.junk), some (.junk), some (.junk), some (.junk), some (.junk), some (.junk), some (.junk), some (.junk), some (.junk), some (.junk), some (.junk), some (.junk), some (.junk), some (.junk), some (.junk), some (.junk), some (.junk), some (.junk), some (.junk), some (.junk), some (.junk), some (.junk), some (.junk), some (.junk), some (.junk), some (.junk), some (.junk), some (.junk), some (.junk), some (.junk), some (.junk), some (.junk), some (.junk), some (.junk), some (.junk), some (.junk), some (.junk), some (.junk), some .junk, some .junk, some .junk, some .junk, some .junk, some .junk, some .junk, some .junk, some .junk, some .junk, some .junk, some .junk, some .junk, some .junk, some .junk, some .junk, some .junk, some .junk, some .junk, some .junk, some .junk, some .junk, some .junk, some .junk, some .junk, some .junk, some .junk, some .junk, some .junk, some .junk, some .junk, some .junk, some .junk, some .junk, some .junk]) (fun n => [(8, .arr 5 (rws (out ++ [m]))), (5, .arr 23 [rwG (withFair s f) (.ref 4 n 0 n false n)]), (4, .arr 2 (rws (L.take n))), (1, .arr 23 [zrow])])
        (fun n => n ≤ L.length ∧ trimN f.open_ L L.length = trimN f.open_ L n) (fun n => n) L.length ⟨by omega, rfl⟩ (by rw [List.take_length, hL]; exact (by exact Can.ofWeak (by exact weak_mk wkD wkH wkN wkM (by omega)))) ?_
      rintro n ⟨h1, h2⟩
      simp only [msk_none, msk_some, msk_nil]
      have h5 : (L.take n).length = n := by simp; omega
      have h8 : (out ++ [m]).length = out.length + 1 := by simp
      have z1 : trimN f.open_ L L.length = n → okF 1000 1000 ⟨f.r, f.guess, f.length, f.open_, L.take n⟩ ∧ (lateR ⟨f.r, f.guess, f.length, f.open_, L.take n⟩ now).1 = R1 ∧ (out ++ [m]) ++ (lateR ⟨f.r, f.guess, f.length, f.open_, L.take n⟩ now).2 = R2 ∧ (out ++ [m]).length + (lateL ⟨f.r, f.guess, f.length, f.open_, L.take n⟩ now).length ≤ 1000000 := fun h => by
        rw [h] at g1 g2 g3
        refine ⟨g3, by rw [← g1.1]; exact k2, ?_, by omega⟩
        rw [List.append_assoc, List.singleton_append, ← g1.2]
        exact k3
      rcases n with _ | n
      · have z2 := z1 h2
        rw [h2] at g2
        repeat' first | refine Z0 ?_ | refine Zx ?_ | (refine Ze ?_; clear hK K) | refine W_reg fun K hK => ?_ | refine W_drwR rfl mixed (by decide +kernel) fun K hK => ?_ | refine W_drw mixed (by decide +kernel) fun K hK => ?_ | (refine Zb ?_ ?_ <;> intro hb <;> first | (simp (disch := omega) only [go_sem] at hb; done) | (simp (disch := omega) only [go_sem] at hb; try omega) | try omega) | (refine Zl ?_; intro bn hnil; (try simp (disch := omega) only [go_sem] at hnil); dsimp only [putT, List.set_cons_succ, List.set_cons_zero])
        exact L_next ⟨(⟨f.r, f.guess, f.length, f.open_, L.take 0⟩, out ++ [m]), by simp only []; rw [show trimN f.open_ L 0 = 0 from rfl] at g2; omega, z2, by simp only [h8, h5]; exact (by exact weak_mk wkD wkH wkN wkM (by omega))⟩
      · obtain ⟨x, hx⟩ := some_of_lt (l := L) (i := n) (by omega)
        have hx2 : (L.take (n + 1))[n]? = some x := by rw [List.getElem?_take_of_lt (by omega), hx]
        rw [trimN, getD_of hx] at h2
        have t1 : (((n + 1 : Nat) : Int) - 1).toNat = n := by omega
        have r1 : List.take n (rws (L.take (n + 1))) = rws (L.take n) := by rw [rws_take, List.take_take]; congr 2; omega
        have h6 : (L.take n).length = n := by simp; omega
        by_cases hc : max f.open_ 0 < (n : Int) + 1 ∧ x.wait.length = 0
        · rw [if_pos hc] at h2
          obtain ⟨h3, h4⟩ := hc
          have zz1 := h5
          have zz2 := t1
          have zz3 := rws_get hx2
          have zz4 := r1
          have zz5 := h6
          repeat' first | refine Z5 ?_ | refine Zx ?_ | (refine Ze ?_; clear hK K) | refine W_reg fun K hK => ?_ | refine W_drwR rfl mixed (by decide +kernel) fun K hK => ?_ | refine W_drw mixed (by decide +kernel) fun K hK => ?_ | (refine Zb ?_ ?_ <;> intro hb <;> first | (simp (disch := omega) only [go_sem, zz1, zz2, zz3, zz4, zz5] at hb; done) | (simp (disch := omega) only [go_sem, zz1, zz2, zz3, zz4, zz5] at hb; try omega) | try omega) | (refine Zl ?_; intro bn hnil; (try simp (disch := omega) only [go_sem, zz1, zz2, zz3, zz4, zz5] at hnil); dsimp only [putT, List.set_cons_succ, List.set_cons_zero])
          exact L_next ⟨n, by omega, ⟨by omega, h2⟩, Can.renW (hp := [(8, .arr 5 (rws (out ++ [m]))), (5, .arr 23 [rwG (withFair s f) (.ref 81 n 0 n false n)]), (81, .arr 2 (rws (L.take n))), (1, .arr 23 [zrow])]) (nx := 97) (fun i => if i = 81 then 4 else i) (by
            refine weak_mk wkD (fun id o e => ?_) wkN wkM (by omega)
            by_cases q1 : 8 = id
            · rw [lk_hit q1] at e; rw [lk_miss (by omega), lk_hit q1]; exact e
            · rw [lk_miss q1] at e
              by_cases q2 : 5 = id
              · rw [lk_hit q2] at e; rw [lk_miss (by omega), lk_miss (by omega), lk_hit q2]; exact e
              · rw [lk_miss q2] at e
                by_cases q3 : 81 = id
                · rw [lk_hit q3] at e ⊢; exact e
                · rw [lk_miss q3] at e
                  by_cases q4 : 1 = id
                  · rw [lk_hit q4] at e; rw [lk_miss (by omega), lk_miss (by omega), lk_miss (by omega), lk_miss (by omega), lk_hit q4]; exact e
                  · rw [lk_miss q4] at e; cases e) (by
            intro i j hi hj e
            simp only [List.map_cons, List.map_nil, List.mem_cons, List.not_mem_nil, or_false] at hi hj
            rcases hi with rfl | rfl | rfl | rfl <;> rcases hj with rfl | rfl | rfl | rfl <;> first | rfl | (simp at e)) (by
            repeat' first | exact lfL_nil | refine lfL_cons ?_ ?_ | exact lfA_junk _ | exact lfA_sl _ _ _ | exact .leaf _ (.fz _ (.int _ _)) | exact .leaf _ (.fz _ (.bool _)) | exact .leaf _ (.ref _ _ _ _ _ _ (by simp)) | exact .leaf _ (.ptr _ _ _ _ (by simp)) | exact .leaf _ ((lf_aggE _ s).2 trivial)) (by
            intro e he
            simp only [List.mem_cons, List.not_mem_nil, or_false] at he
            rcases he with rfl | rfl | rfl | rfl
            · simp [lfO_rws]
            · exact lfO_rwG _ _ _ _ (by simp)
            · simp [lfO_rws]
            · exact lfO_zrow _) (by simp) (by simp) (by omega) reS (by simp only [renH, renO, ren_rws, ren0, rwG, List.map_cons, List.map_nil]; rfl)⟩
        · rw [if_neg hc] at h2
          have z2 := z1 h2
          rw [h2] at g2
          have zz1 := h5
          have zz2 := t1
          have zz3 := rws_get hx2
          repeat' first | refine Z3 ?_ | refine Zx ?_ | (refine Ze ?_; clear hK K) | refine W_reg fun K hK => ?_ | refine W_drwR rfl mixed (by decide +kernel) fun K hK => ?_ | refine W_drw mixed (by decide +kernel) fun K hK => ?_ | (refine Zb ?_ ?_ <;> intro hb <;> first | (simp (disch := omega) only [go_sem, zz1, zz2, zz3] at hb; done) | (simp (disch := omega) only [go_sem, zz1, zz2, zz3] at hb; try omega) | try omega) | (refine Zl ?_; intro bn hnil; (try simp (disch := omega) only [go_sem, zz1, zz2, zz3] at hnil); dsimp only [putT, List.set_cons_succ, List.set_cons_zero])
          all_goals first | (exfalso; omega) | skip
          all_goals exact L_next ⟨(⟨f.r, f.guess, f.length, f.open_, L.take (n + 1)⟩, out ++ [m]), by simp only []; omega, z2, by simp only [h8, h5]; exact (by exact weak_mk wkD wkH wkN wkM (by omega))⟩

end Go.Proofs.Ytdgjelfeclgolaa
