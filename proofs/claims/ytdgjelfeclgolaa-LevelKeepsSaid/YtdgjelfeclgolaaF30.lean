/-
  A level: width, seats, what fits, what is wanted; copied; run; walked.
-/
import Derived.Test.YtdgjelfeclgolaaM23
namespace Go.Proofs.Ytdgjelfeclgolaa
open Go Go.AM
set_option maxHeartbeats 8000000
set_option maxRecDepth 8000
set_option linter.unusedSimpArgs false
set_option linter.unusedVariables false

attribute [go_sem] withRun withFair seated

theorem lin_ok (w : Int) : PCall Try.prog 105 [.int .i64 w] (· = .int .i64 (wid w)) := by
  refine PCall_intro (c := Try.f105.body.getD .skip) Try.func105 rfl (by decide +kernel) Zf (W_start ?_)
  simp only [Try.f105, go_sem]
  repeat' first
    | refine Z0 ?_
    | refine Zx ?_
    | (refine Ze ?_; clear hK K)
    | refine W_reg fun K hK => ?_
    | refine W_drwR rfl mixed (by decide +kernel) fun K hK => ?_
    | refine W_drw mixed (by decide +kernel) fun K hK => ?_
    | (refine Zb ?_ ?_ <;> intro hb <;> first | (simp (disch := omega) only [go_sem] at hb; done) | (simp (disch := omega) only [go_sem] at hb; try omega) | try omega)
    | (refine Zl ?_; intro bn hnil; (try simp (disch := omega) only [go_sem] at hnil); dsimp only [putT, List.set_cons_succ, List.set_cons_zero])
  exact Zr

theorem lruns_ok (s : TState) (hr : s.running.length ≤ 2000000) : PCall Try.prog 69 [.agg (Enc.enc s)] (· = .int .i64 (runsL s.running)) := by
  refine PCall_intro (c := Try.f69.body.getD .skip) Try.func69 rfl (by decide +kernel) Zf (W_start ?_)
  simp only [Try.f69, go_sem]
  repeat' first
    | refine Z0 ?_
    | refine Zx ?_
    | (refine Ze ?_; clear hK K)
    | refine W_reg fun K hK => ?_
    | refine W_drwR rfl mixed (by decide +kernel) fun K hK => ?_
    | refine W_drw mixed (by decide +kernel) fun K hK => ?_
    | (refine Zb ?_ ?_ <;> intro hb <;> first | (simp (disch := omega) only [go_sem] at hb; done) | (simp (disch := omega) only [go_sem] at hb; try omega) | try omega)
    | (refine Zl ?_; intro bn hnil; (try simp (disch := omega) only [go_sem] at hnil); dsimp only [putT, List.set_cons_succ, List.set_cons_zero])
  refine W_foldK (fun (i : Nat) => [none, none, none, some (.int .i64 (runsL (s.running.take i))), none, some .junk, none, none, none, some (.int .i64 i), some .junk, some .junk, some .junk, some .junk, some .junk, some .junk, some .junk, some .junk, some .junk, some .junk]) (fun i => i ≤ s.running.length) (fun i => s.running.length - i) 0 (by omega) (by simp only [List.take_zero, show runsL [] = 0 from rfl]; exact (by exact weak_mk wkD wkH wkN wkM (by omega))) ?_
  rintro i hi
  simp only [msk_none, msk_some, msk_nil]
  rcases Nat.lt_or_ge i s.running.length with h4 | h4
  · obtain ⟨x, hx⟩ := some_of_lt h4
    have b1 := runsL_take s.running i
    have b2 := runsL_take s.running (i + 1)
    have e1 := runsL_snoc hx
    have e2 : min (max x.seats 0) 16 = sea x := rfl
    rw [e1] at b2
    have zz1 := rws_get hx
    have zz2 := e2
    repeat' first
      | refine Z2 ?_
      | refine Zx ?_
      | (refine Ze ?_; clear hK K)
      | refine W_reg fun K hK => ?_
      | refine W_drwR rfl mixed (by decide +kernel) fun K hK => ?_
      | refine W_drw mixed (by decide +kernel) fun K hK => ?_
      | (refine Zb ?_ ?_ <;> intro hb <;> first | (simp (disch := omega) only [go_sem, zz1, zz2] at hb; done) | (simp (disch := omega) only [go_sem, zz1, zz2] at hb; try omega) | try omega)
      | (refine Zl ?_; intro bn hnil; (try simp (disch := omega) only [go_sem, zz1, zz2] at hnil); dsimp only [putT, List.set_cons_succ, List.set_cons_zero])
    exact L_next ⟨i + 1, by omega, by omega, by rw [e1]; exact (by exact weak_mk wkD wkH wkN wkM (by omega))⟩
  · obtain rfl : i = s.running.length := by omega
    rw [List.take_length]
    repeat' first
      | refine Z0 ?_
      | refine Zx ?_
      | (refine Ze ?_; clear hK K)
      | refine W_reg fun K hK => ?_
      | refine W_drwR rfl mixed (by decide +kernel) fun K hK => ?_
      | refine W_drw mixed (by decide +kernel) fun K hK => ?_
      | (refine Zb ?_ ?_ <;> intro hb <;> first | (simp (disch := omega) only [go_sem] at hb; done) | (simp (disch := omega) only [go_sem] at hb; try omega) | try omega)
      | (refine Zl ?_; intro bn hnil; (try simp (disch := omega) only [go_sem] at hnil); dsimp only [putT, List.set_cons_succ, List.set_cons_zero])
    exact Zr

theorem lfits_ok (s : TState) (w : Int) (hr : s.running.length ≤ 2000000) (hl : s.limit ≤ 9223372036854775807) : PCall Try.prog 70 [.agg (Enc.enc s), .int .i64 w] (· = .tuple [.int .i64 (fits s w).1, .bool (fits s w).2]) := by
  have c1 := lin_ok w
  have c2 := lruns_ok s hr
  have b1 := runsL_le s.running
  have b2 := wid_le w
  unfold fits
  generalize wid w = W at *
  by_cases h1 : s.level.kind = 1
  · simp only [if_pos h1]
    refine PCall_intro (c := Try.f70.body.getD .skip) Try.func70 rfl (by decide +kernel) Zf (W_start ?_)
    simp only [Try.f70, go_sem]
    repeat' first
      | refine Z0 ?_
      | refine Zx ?_
      | refine Zc c1 ?_
      | refine Zc c2 ?_
      | (refine Ze ?_; clear hK K)
      | refine W_reg fun K hK => ?_
      | refine W_drwR rfl mixed (by decide +kernel) fun K hK => ?_
      | refine W_drw mixed (by decide +kernel) fun K hK => ?_
      | (refine Zb ?_ ?_ <;> intro hb <;> first | (simp (disch := omega) only [go_sem] at hb; done) | (simp (disch := omega) only [go_sem] at hb; try omega) | try omega)
      | (refine Zl ?_; intro bn hnil; (try simp (disch := omega) only [go_sem] at hnil); dsimp only [putT, List.set_cons_succ, List.set_cons_zero])
    all_goals exact Zr
  · simp only [if_neg h1]
    by_cases h2 : s.limit < 1
    · simp only [if_pos h2]
      refine PCall_intro (c := Try.f70.body.getD .skip) Try.func70 rfl (by decide +kernel) Zf (W_start ?_)
      simp only [Try.f70, go_sem]
      repeat' first
        | refine Z0 ?_
        | refine Zx ?_
        | refine Zc c1 ?_
        | refine Zc c2 ?_
        | (refine Ze ?_; clear hK K)
        | refine W_reg fun K hK => ?_
        | refine W_drwR rfl mixed (by decide +kernel) fun K hK => ?_
        | refine W_drw mixed (by decide +kernel) fun K hK => ?_
        | (refine Zb ?_ ?_ <;> intro hb <;> first | (simp (disch := omega) only [go_sem] at hb; done) | (simp (disch := omega) only [go_sem] at hb; try omega) | try omega)
        | (refine Zl ?_; intro bn hnil; (try simp (disch := omega) only [go_sem] at hnil); dsimp only [putT, List.set_cons_succ, List.set_cons_zero])
      all_goals exact Zr
    · simp only [if_neg h2]
      by_cases h3 : s.running.length = 0
      · simp only [if_pos h3]
        refine PCall_intro (c := Try.f70.body.getD .skip) Try.func70 rfl (by decide +kernel) Zf (W_start ?_)
        simp only [Try.f70, go_sem]
        repeat' first
          | refine Z0 ?_
          | refine Zx ?_
          | refine Zc c1 ?_
          | refine Zc c2 ?_
          | (refine Ze ?_; clear hK K)
          | refine W_reg fun K hK => ?_
          | refine W_drwR rfl mixed (by decide +kernel) fun K hK => ?_
          | refine W_drw mixed (by decide +kernel) fun K hK => ?_
          | (refine Zb ?_ ?_ <;> intro hb <;> first | (simp (disch := omega) only [go_sem] at hb; done) | (simp (disch := omega) only [go_sem] at hb; try omega) | try omega)
          | (refine Zl ?_; intro bn hnil; (try simp (disch := omega) only [go_sem] at hnil); dsimp only [putT, List.set_cons_succ, List.set_cons_zero])
        all_goals exact Zr
      · simp only [if_neg h3]
        generalize runsL s.running = R at *
        by_cases h4 : R ≤ s.limit - W
        · simp only [if_pos h4]
          refine PCall_intro (c := Try.f70.body.getD .skip) Try.func70 rfl (by decide +kernel) Zf (W_start ?_)
          simp only [Try.f70, go_sem]
          repeat' first
            | refine Z0 ?_
            | refine Zx ?_
            | refine Zc c1 ?_
            | refine Zc c2 ?_
            | (refine Ze ?_; clear hK K)
            | refine W_reg fun K hK => ?_
            | refine W_drwR rfl mixed (by decide +kernel) fun K hK => ?_
            | refine W_drw mixed (by decide +kernel) fun K hK => ?_
            | (refine Zb ?_ ?_ <;> intro hb <;> first | (simp (disch := omega) only [go_sem] at hb; done) | (simp (disch := omega) only [go_sem] at hb; try omega) | try omega)
            | (refine Zl ?_; intro bn hnil; (try simp (disch := omega) only [go_sem] at hnil); dsimp only [putT, List.set_cons_succ, List.set_cons_zero])
          all_goals exact Zr
        · simp only [if_neg h4]
          refine PCall_intro (c := Try.f70.body.getD .skip) Try.func70 rfl (by decide +kernel) Zf (W_start ?_)
          simp only [Try.f70, go_sem]
          repeat' first
            | refine Z0 ?_
            | refine Zx ?_
            | refine Zc c1 ?_
            | refine Zc c2 ?_
            | (refine Ze ?_; clear hK K)
            | refine W_reg fun K hK => ?_
            | refine W_drwR rfl mixed (by decide +kernel) fun K hK => ?_
            | refine W_drw mixed (by decide +kernel) fun K hK => ?_
            | (refine Zb ?_ ?_ <;> intro hb <;> first | (simp (disch := omega) only [go_sem] at hb; done) | (simp (disch := omega) only [go_sem] at hb; try omega) | try omega)
            | (refine Zl ?_; intro bn hnil; (try simp (disch := omega) only [go_sem] at hnil); dsimp only [putT, List.set_cons_succ, List.set_cons_zero])
          all_goals exact Zr

theorem lwants_ok (s : TState) (hf : okF 1000 1000 s.fair) (hr : s.running.length ≤ 2000000) : PCall Try.prog 86 [.agg (Enc.enc s)] (· = .int .i64 (wants s)) := by
  have c1 := lruns_ok s hr
  have c2 := fseats_ok s.fair hf
  have b1 := runsL_le s.running
  have b2 := fseats_take 1000 s.fair.lanes (fun l hl => (hf.2 l hl).2) s.fair.lanes.length
  rw [List.take_length] at b2
  have b2 : 0 ≤ fseats s.fair ∧ fseats s.fair ≤ 16 * ((1000 : Nat) : Int) * (s.fair.lanes.length : Int) := b2
  have hn := hf.1
  unfold wants
  generalize runsL s.running = R at *
  generalize fseats s.fair = F at *
  refine PCall_intro (c := Try.f86.body.getD .skip) Try.func86 rfl (by decide +kernel) Zf (W_start ?_)
  simp only [Try.f86, go_sem]
  repeat' first
    | refine Z0 ?_
    | refine Zx ?_
    | refine Zc c1 ?_
    | refine Zc c2 ?_
    | (refine Ze ?_; clear hK K)
    | refine W_reg fun K hK => ?_
    | refine W_drwR rfl mixed (by decide +kernel) fun K hK => ?_
    | refine W_drw mixed (by decide +kernel) fun K hK => ?_
    | (refine Zb ?_ ?_ <;> intro hb <;> first | (simp (disch := omega) only [go_sem] at hb; done) | (simp (disch := omega) only [go_sem] at hb; try omega) | try omega)
    | (refine Zl ?_; intro bn hnil; (try simp (disch := omega) only [go_sem] at hnil); dsimp only [putT, List.set_cons_succ, List.set_cons_zero])
  exact Zr

theorem lempty_ok (s : TState) (hf : okF 1000 1000 s.fair) (hr : s.running.length ≤ 2000000) : PCall Try.prog 88 [.agg (Enc.enc s)] (· = .bool (lempty s)) := by
  have c1 := waiting_ok s.fair hf
  unfold lempty
  generalize waiting s.fair = W at *
  by_cases h1 : W = 0
  · by_cases h2 : s.running.length = 0
    · rw [decide_eq_true h1, decide_eq_true h2, Bool.true_and]
      refine PCall_intro (c := Try.f88.body.getD .skip) Try.func88 rfl (by decide +kernel) Zf (W_start ?_)
      simp only [Try.f88, go_sem]
      repeat' first
        | refine Z0 ?_
        | refine Zx ?_
        | refine Zc c1 ?_
        | (refine Ze ?_; clear hK K)
        | refine W_reg fun K hK => ?_
        | refine W_drwR rfl mixed (by decide +kernel) fun K hK => ?_
        | refine W_drw mixed (by decide +kernel) fun K hK => ?_
        | (refine Zb ?_ ?_ <;> intro hb <;> first | (simp (disch := omega) only [go_sem] at hb; done) | (simp (disch := omega) only [go_sem] at hb; try omega) | try omega)
        | (refine Zl ?_; intro bn hnil; (try simp (disch := omega) only [go_sem] at hnil); dsimp only [putT, List.set_cons_succ, List.set_cons_zero])
      all_goals exact Zr
    · rw [decide_eq_true h1, decide_eq_false h2, Bool.true_and]
      refine PCall_intro (c := Try.f88.body.getD .skip) Try.func88 rfl (by decide +kernel) Zf (W_start ?_)
      simp only [Try.f88, go_sem]
      repeat' first
        | refine Z0 ?_
        | refine Zx ?_
        | refine Zc c1 ?_
        | (refine Ze ?_; clear hK K)
        | refine W_reg fun K hK => ?_
        | refine W_drwR rfl mixed (by decide +kernel) fun K hK => ?_
        | refine W_drw mixed (by decide +kernel) fun K hK => ?_
        | (refine Zb ?_ ?_ <;> intro hb <;> first | (simp (disch := omega) only [go_sem] at hb; done) | (simp (disch := omega) only [go_sem] at hb; try omega) | try omega)
        | (refine Zl ?_; intro bn hnil; (try simp (disch := omega) only [go_sem] at hnil); dsimp only [putT, List.set_cons_succ, List.set_cons_zero])
      all_goals exact Zr
  · rw [decide_eq_false h1, Bool.false_and]
    refine PCall_intro (c := Try.f88.body.getD .skip) Try.func88 rfl (by decide +kernel) Zf (W_start ?_)
    simp only [Try.f88, go_sem]
    repeat' first
      | refine Z0 ?_
      | refine Zx ?_
      | refine Zc c1 ?_
      | (refine Ze ?_; clear hK K)
      | refine W_reg fun K hK => ?_
      | refine W_drwR rfl mixed (by decide +kernel) fun K hK => ?_
      | refine W_drw mixed (by decide +kernel) fun K hK => ?_
      | (refine Zb ?_ ?_ <;> intro hb <;> first | (simp (disch := omega) only [go_sem] at hb; done) | (simp (disch := omega) only [go_sem] at hb; try omega) | try omega)
      | (refine Zl ?_; intro bn hnil; (try simp (disch := omega) only [go_sem] at hnil); dsimp only [putT, List.set_cons_succ, List.set_cons_zero])
    all_goals exact Zr

/-- A state of which the running ones lie in an object. -/
abbrev stV (s : TState) (r : AVal) : AVal := .agg [.str s.level.name, .int .i64 s.level.kind, .int .i64 s.level.shares, .int .i64 s.level.lend, .int .i64 s.level.borrow, .int .i64 s.level.queues, .int .i64 s.level.hand, .int .i64 s.level.length, .int .i64 s.level.wait, .int .i64 s.level.guess,
  .bool s.quiet, .int .i64 s.limit, .int .i64 s.bound.nominal, .int .i64 s.bound.min, .int .i64 s.bound.max, .int .i64 s.demand.high, .int .i64 s.demand.smooth, .int .u64 s.fair.r, .int .i64 s.fair.guess, .int .i64 s.fair.length, .int .i64 s.fair.open_, .sl (rws s.fair.lanes) none, r]

theorem state1 (s : TState) (k : Nat) : Nat1 fun j => stV s (.ref j k 0 k false k) := by
  refine Nat1.agg [fun _ => .str s.level.name, fun _ => .int .i64 s.level.kind, fun _ => .int .i64 s.level.shares, fun _ => .int .i64 s.level.lend, fun _ => .int .i64 s.level.borrow, fun _ => .int .i64 s.level.queues, fun _ => .int .i64 s.level.hand, fun _ => .int .i64 s.level.length, fun _ => .int .i64 s.level.wait, fun _ => .int .i64 s.level.guess,
    fun _ => .bool s.quiet, fun _ => .int .i64 s.limit, fun _ => .int .i64 s.bound.nominal, fun _ => .int .i64 s.bound.min, fun _ => .int .i64 s.bound.max, fun _ => .int .i64 s.demand.high, fun _ => .int .i64 s.demand.smooth, fun _ => .int .u64 s.fair.r, fun _ => .int .i64 s.fair.guess, fun _ => .int .i64 s.fair.length, fun _ => .int .i64 s.fair.open_, fun _ => .sl (rws s.fair.lanes) none, fun j => .ref j k 0 k false k] fun c hc => ?_
  simp only [List.mem_cons, List.not_mem_nil, or_false] at hc
  rcases hc with rfl | rfl | rfl | rfl | rfl | rfl | rfl | rfl | rfl | rfl | rfl | rfl | rfl | rfl | rfl | rfl | rfl | rfl | rfl | rfl | rfl | rfl | rfl
  · exact .const _ (.str _)
  all_goals first | exact .const _ (.int _ _) | exact .const _ (.bool _) | exact .const _ (rws_fz _ _) | exact .ref _ _ _ _ _

theorem lcopied_ok (s : TState) (hf : okF 1000 1000 s.fair) (hr : s.running.length ≤ 2000000) : PNew Try.prog 106 [.agg (Enc.enc s)] (fun j => stV s (.ref j s.running.length 0 s.running.length false s.running.length)) (.arr 5 (rws s.running)) := by
  have hn := hf.1
  have c0 := clone_ok s.running (by omega)
  have c1 := cloneL_ok s.fair.lanes (by omega)
  refine PNew_body (c := Try.f106.body.getD .skip) Try.func106 rfl (by decide +kernel) Zf (state1 _ _) (rws_mem _) (W_start ?_)
  simp only [Try.f106, go_sem]
  repeat' first
    | refine Z0 ?_
    | refine Zx ?_
    | refine Zw c0 ?_
    | refine Zw c1 ?_
    | (refine Ze ?_; clear hK K)
    | refine W_reg fun K hK => ?_
    | refine W_drwR rfl mixed (by decide +kernel) fun K hK => ?_
    | refine W_drw mixed (by decide +kernel) fun K hK => ?_
    | (refine Zb ?_ ?_ <;> intro hb <;> first | (simp (disch := omega) only [go_sem] at hb; done) | (simp (disch := omega) only [go_sem] at hb; try omega) | try omega)
    | (refine Zl ?_; intro bn hnil; (try simp (disch := omega) only [go_sem] at hnil); dsimp only [putT, List.set_cons_succ, List.set_cons_zero])
  refine W_foldK (fun (i : Nat) => [none, none, none, some .junk, none, none, none, none, none, none, none, none, none, none, none, none, none, none, some (.int .i64 i), some .junk, some .junk, some .junk, some .junk, some .junk, some .junk, some .junk, some .junk, some .junk, some .junk, some .junk, some .junk, some .junk, some .junk, some .junk, some .junk, some .junk]) (fun i => i ≤ s.fair.lanes.length) (fun i => s.fair.lanes.length - i) 0 (by omega) (by exact weak_mk wkD wkH wkN wkM (by omega)) ?_
  rintro i hi
  simp only [msk_none, msk_some, msk_nil]
  rcases Nat.lt_or_ge i s.fair.lanes.length with h4 | h4
  · obtain ⟨x, hx⟩ := some_of_lt h4
    have c2 := cloneP_ok x.wait (Nat.le_trans (hf.2 x (List.mem_of_getElem? hx)).2 (by omega))
    have e1 := set_same hx
    have zz1 := rws_get hx
    have zz2 := e1
    repeat' first
      | refine Z2 ?_
      | refine Zx ?_
      | refine Zc c2 ?_
      | (refine Ze ?_; clear hK K)
      | refine W_reg fun K hK => ?_
      | refine W_drwR rfl mixed (by decide +kernel) fun K hK => ?_
      | refine W_drw mixed (by decide +kernel) fun K hK => ?_
      | (refine Zb ?_ ?_ <;> intro hb <;> first | (simp (disch := omega) only [go_sem, zz1, zz2] at hb; done) | (simp (disch := omega) only [go_sem, zz1, zz2] at hb; try omega) | try omega)
      | (refine Zl ?_; intro bn hnil; (try simp (disch := omega) only [go_sem, zz1, zz2] at hnil); dsimp only [putT, List.set_cons_succ, List.set_cons_zero])
    exact L_next ⟨i + 1, by omega, by omega, (by exact weak_mk wkD wkH wkN wkM (by omega))⟩
  · obtain rfl : i = s.fair.lanes.length := by omega
    (apply W_frzI 10 (s.fair.lanes) (s.fair.lanes.length); (case hl => simp only [go_sem]; exact rfl); (case e => first | rfl | (simp; done) | (simp [rws, Enc.enc]; done)); (case hn => first | rfl | (simp; done) | omega); (case e1 => exact subT); (case e2 => exact subU))
    repeat' first
      | refine Z0 ?_
      | refine Zx ?_
      | (refine Ze ?_; clear hK K)
      | refine W_reg fun K hK => ?_
      | refine W_drwR rfl mixed (by decide +kernel) fun K hK => ?_
      | refine W_drw mixed (by decide +kernel) fun K hK => ?_
      | (refine Zb ?_ ?_ <;> intro hb <;> first | (simp (disch := omega) only [go_sem] at hb; done) | (simp (disch := omega) only [go_sem] at hb; try omega) | try omega)
      | (refine Zl ?_; intro bn hnil; (try simp (disch := omega) only [go_sem] at hnil); dsimp only [putT, List.set_cons_succ, List.set_cons_zero])
    exact Zrw

/-- Such a call, in all its plainness. -/
theorem lcopiedP_ok (s : TState) (hf : okF 1000 1000 s.fair) (hr : s.running.length ≤ 2000000) : PCall Try.prog 106 [.agg (Enc.enc s)] (· = .agg (Enc.enc s)) := by
  have hn := hf.1
  have c0 := clone_ok s.running (by omega)
  have c1 := cloneL_ok s.fair.lanes (by omega)
  refine PCall_intro (c := Try.f106.body.getD .skip) Try.func106 rfl (by decide +kernel) Zf (W_start ?_)
  simp only [Try.f106, go_sem]
  repeat' first
    | refine Z0 ?_
    | refine Zx ?_
    | refine Zw c0 ?_
    | refine Zw c1 ?_
    | (refine Ze ?_; clear hK K)
    | refine W_reg fun K hK => ?_
    | refine W_drwR rfl mixed (by decide +kernel) fun K hK => ?_
    | refine W_drw mixed (by decide +kernel) fun K hK => ?_
    | (refine Zb ?_ ?_ <;> intro hb <;> first | (simp (disch := omega) only [go_sem] at hb; done) | (simp (disch := omega) only [go_sem] at hb; try omega) | try omega)
    | (refine Zl ?_; intro bn hnil; (try simp (disch := omega) only [go_sem] at hnil); dsimp only [putT, List.set_cons_succ, List.set_cons_zero])
  refine W_foldK (fun (i : Nat) => [none, none, none, some .junk, none, none, none, none, none, none, none, none, none, none, none, none, none, none, some (.int .i64 i), some .junk, some .junk, some .junk, some .junk, some .junk, some .junk, some .junk, some .junk, some .junk, some .junk, some .junk, some .junk, some .junk, some .junk, some .junk, some .junk, some .junk]) (fun i => i ≤ s.fair.lanes.length) (fun i => s.fair.lanes.length - i) 0 (by omega) (by exact weak_mk wkD wkH wkN wkM (by omega)) ?_
  rintro i hi
  simp only [msk_none, msk_some, msk_nil]
  rcases Nat.lt_or_ge i s.fair.lanes.length with h4 | h4
  · obtain ⟨x, hx⟩ := some_of_lt h4
    have c2 := cloneP_ok x.wait (Nat.le_trans (hf.2 x (List.mem_of_getElem? hx)).2 (by omega))
    have e1 := set_same hx
    have zz1 := rws_get hx
    have zz2 := e1
    repeat' first
      | refine Z2 ?_
      | refine Zx ?_
      | refine Zc c2 ?_
      | (refine Ze ?_; clear hK K)
      | refine W_reg fun K hK => ?_
      | refine W_drwR rfl mixed (by decide +kernel) fun K hK => ?_
      | refine W_drw mixed (by decide +kernel) fun K hK => ?_
      | (refine Zb ?_ ?_ <;> intro hb <;> first | (simp (disch := omega) only [go_sem, zz1, zz2] at hb; done) | (simp (disch := omega) only [go_sem, zz1, zz2] at hb; try omega) | try omega)
      | (refine Zl ?_; intro bn hnil; (try simp (disch := omega) only [go_sem, zz1, zz2] at hnil); dsimp only [putT, List.set_cons_succ, List.set_cons_zero])
    exact L_next ⟨i + 1, by omega, by omega, (by exact weak_mk wkD wkH wkN wkM (by omega))⟩
  · obtain rfl : i = s.fair.lanes.length := by omega
    repeat' first
      | refine Z0 ?_
      | refine Zx ?_
      | (refine Ze ?_; clear hK K)
      | refine W_reg fun K hK => ?_
      | refine W_drwR rfl mixed (by decide +kernel) fun K hK => ?_
      | refine W_drw mixed (by decide +kernel) fun K hK => ?_
      | (refine Zb ?_ ?_ <;> intro hb <;> first | (simp (disch := omega) only [go_sem] at hb; done) | (simp (disch := omega) only [go_sem] at hb; try omega) | try omega)
      | (refine Zl ?_; intro bn hnil; (try simp (disch := omega) only [go_sem] at hnil); dsimp only [putT, List.set_cons_succ, List.set_cons_zero])
    exact Zr

/-- A ticket runs, if it fits. -/
theorem lrun0_yes (s : TState) (t : TTicket) (hr : s.running.length ≤ 2000000) (hl : s.limit ≤ 9223372036854775807) (n : Int) (hfit : fits s t.width = (n, true)) :
    HCall Try.prog 107 [stV s (.ref 0 s.running.length 0 s.running.length false s.running.length), .agg (Enc.enc t)] [(0, .arr 5 (rws s.running))] 1
    (fun r h _ => r = .tuple [stV s (.ref 0 (s.running.length + 1) 0 (s.running.length + 1) false (s.running.length + 1)), .agg (Enc.enc (seated t n)), .bool true] ∧ h = [(0, .arr 5 (rws (s.running ++ [seated t n])))]) := by
  have c1 := lfits_ok s t.width hr hl
  rw [hfit] at c1
  have r1 := rws_snoc s.running (seated t n)
  simp only [enc_TTicket, seated] at r1 ⊢
  refine HCall_intro (c := Try.f107.body.getD .skip) Try.func107 rfl (by decide +kernel) (W_start ?_)
  simp only [Try.f107, go_sem]
  have zz1 := r1
  repeat' first
    | refine Z1 ?_
    | refine Zx ?_
    | refine Zn c1 ?_
    | (refine Ze ?_; clear hK K)
    | refine W_reg fun K hK => ?_
    | refine W_drwR rfl mixed (by decide +kernel) fun K hK => ?_
    | refine W_drw mixed (by decide +kernel) fun K hK => ?_
    | (refine Zb ?_ ?_ <;> intro hb <;> first | (simp (disch := omega) only [go_sem, zz1] at hb; done) | (simp (disch := omega) only [go_sem, zz1] at hb; try omega) | try omega)
    | (refine Zl ?_; intro bn hnil; (try simp (disch := omega) only [go_sem, zz1] at hnil); dsimp only [putT, List.set_cons_succ, List.set_cons_zero])
  exact Zrf

theorem lrun0_no (s : TState) (t : TTicket) (hr : s.running.length ≤ 2000000) (hl : s.limit ≤ 9223372036854775807) (n : Int) (hfit : fits s t.width = (n, false)) :
    HCall Try.prog 107 [stV s (.ref 0 s.running.length 0 s.running.length false s.running.length), .agg (Enc.enc t)] [(0, .arr 5 (rws s.running))] 1
    (fun r h _ => r = .tuple [stV s (.ref 0 s.running.length 0 s.running.length false s.running.length), .agg (Enc.enc t), .bool false] ∧ h = [(0, .arr 5 (rws s.running))]) := by
  have c1 := lfits_ok s t.width hr hl
  rw [hfit] at c1
  refine HCall_intro (c := Try.f107.body.getD .skip) Try.func107 rfl (by decide +kernel) (W_start ?_)
  simp only [Try.f107, go_sem]
  repeat' first
    | refine Z0 ?_
    | refine Zx ?_
    | refine Zn c1 ?_
    | (refine Ze ?_; clear hK K)
    | refine W_reg fun K hK => ?_
    | refine W_drwR rfl mixed (by decide +kernel) fun K hK => ?_
    | refine W_drw mixed (by decide +kernel) fun K hK => ?_
    | (refine Zb ?_ ?_ <;> intro hb <;> first | (simp (disch := omega) only [go_sem] at hb; done) | (simp (disch := omega) only [go_sem] at hb; try omega) | try omega)
    | (refine Zl ?_; intro bn hnil; (try simp (disch := omega) only [go_sem] at hnil); dsimp only [putT, List.set_cons_succ, List.set_cons_zero])
  exact Zrf

/-- The same, wherever the object lies. -/
theorem st_lf (s : TState) (k : Nat) (S : Nat → Prop) (h : S 0) : ∀ c, c ∈ (match stV s (.ref 0 k 0 k false k) with | .agg cs => cs | _ => []) → Lf S c := by
  intro c hc
  simp only [List.mem_cons, List.not_mem_nil, or_false] at hc
  rcases hc with rfl | rfl | rfl | rfl | rfl | rfl | rfl | rfl | rfl | rfl | rfl | rfl | rfl | rfl | rfl | rfl | rfl | rfl | rfl | rfl | rfl | rfl | rfl
  · exact .fz _ (.str _)
  all_goals first | exact .fz _ (.int _ _) | exact .fz _ (.bool _) | exact .fz _ (rws_fz _ _) | exact .ref _ _ _ _ _ _ h

theorem lrun_yes (s : TState) (t : TTicket) (N : Nat) (hN : s.running.length = N) (hr : N ≤ 2000000) (hl : s.limit ≤ 9223372036854775807) (n : Int) (hfit : fits s t.width = (n, true)) (A : Nat) :
    FCall Try.prog 107 [stV s (.ref A N 0 N false N), .agg (Enc.enc t)] [(A, .arr 5 (rws s.running))] (.tuple [stV s (.ref A (N + 1) 0 (N + 1) false (N + 1)), .agg (Enc.enc (seated t n)), .bool true]) [(A, .arr 5 (rws (s.running ++ [seated t n])))] := by
  subst hN
  refine FCall.arr (lrun0_yes s t hr hl n hfit) A (fun x hx => ?_) (.tuple _ fun c hc => ?_) rfl rfl
  · simp only [List.mem_cons, List.not_mem_nil, or_false] at hx
    rcases hx with rfl | rfl
    · exact .agg _ (st_lf s _ _ (by simp))
    · exact .leaf _ ((lf_aggE _ _).2 trivial)
  · simp only [List.mem_cons, List.not_mem_nil, or_false] at hc
    rcases hc with rfl | rfl | rfl
    · exact .agg _ (st_lf s _ _ (by simp))
    · exact .leaf _ ((lf_aggE _ _).2 trivial)
    · exact .leaf _ (.fz _ (.bool _))
theorem lrun_no (s : TState) (t : TTicket) (N : Nat) (hN : s.running.length = N) (hr : N ≤ 2000000) (hl : s.limit ≤ 9223372036854775807) (n : Int) (hfit : fits s t.width = (n, false)) (A : Nat) :
    FCall Try.prog 107 [stV s (.ref A N 0 N false N), .agg (Enc.enc t)] [(A, .arr 5 (rws s.running))] (.tuple [stV s (.ref A N 0 N false N), .agg (Enc.enc t), .bool false]) [(A, .arr 5 (rws s.running))] := by
  subst hN
  refine FCall.arr (lrun0_no s t hr hl n hfit) A (fun x hx => ?_) (.tuple _ fun c hc => ?_) rfl rfl
  · simp only [List.mem_cons, List.not_mem_nil, or_false] at hx
    rcases hx with rfl | rfl
    · exact .agg _ (st_lf s _ _ (by simp))
    · exact .leaf _ ((lf_aggE _ _).2 trivial)
  · simp only [List.mem_cons, List.not_mem_nil, or_false] at hc
    rcases hc with rfl | rfl | rfl
    · exact .agg _ (st_lf s _ _ (by simp))
    · exact .leaf _ ((lf_aggE _ _).2 trivial)
    · exact .leaf _ (.fz _ (.bool _))

end Go.Proofs.Ytdgjelfeclgolaa
