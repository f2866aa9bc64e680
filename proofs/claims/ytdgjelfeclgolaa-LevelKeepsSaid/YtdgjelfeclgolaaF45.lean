/-
  A level's laws: LevelKeeps; walked.
-/
import Derived.Test.YtdgjelfeclgolaaM26
namespace Go.Proofs.Ytdgjelfeclgolaa
open Go Go.AM
set_option maxHeartbeats 8000000
set_option maxRecDepth 8000
set_option linter.unusedSimpArgs false
set_option linter.unusedVariables false

theorem lopen_known (l : TLevel) : known 0 (lopen l) 0 := by
  have : ids (lopen l) = [] := by
    have h0 : fids zeroF = [] := rfl
    unfold ids lopen
    simp only []
    split
    · rw [show widsOf noT = [] from rfl, List.nil_append, fnew, shape]
      split
      · rw [fids_trim, fids_grow zeroF]; rfl
      · rfl
    · rfl
  exact ⟨by rw [this]; exact List.nodup_nil, fun x hx => (by rw [this] at hx; cases hx), by rw [this]; rfl⟩

/-- The op with an ID of its own. -/
abbrev own (o : TOp23) (i : Nat) : TOp23 := ⟨o.do_, ⟨1000 + (i : Int), o.t.width, o.t.seats, o.t.since, o.t.until_⟩, o.hand, o.n, o.level, o.quiet⟩

/-- All who run or wait, in the order in which they are gone through. -/
def allT (s : TState) (k : Nat) : List TTicket := s.running ++ (s.fair.lanes.take k).flatMap (·.wait)

theorem allT_zero (s : TState) : allT s 0 = s.running := by simp [allT]
theorem allT_succ {s : TState} {k : Nat} {x : TLane} (h : s.fair.lanes[k]? = some x) : allT s (k + 1) = allT s k ++ x.wait := by
  unfold allT
  rw [List.take_add_one, h]
  simp
theorem allT_len (s : TState) (k : Nat) : (allT s k).length ≤ (ids s).length := by
  have h : ∀ (L : List TLane) (k : Nat), ((L.take k).flatMap (·.wait)).length ≤ (L.flatMap fun l => widsOf l.wait).length := by
    intro L
    induction L with
    | nil => simp
    | cons x L ih =>
      intro k
      cases k with
      | zero => simp
      | succ k =>
        simp only [List.take_succ_cons, List.flatMap_cons, List.length_append, widsOf, List.length_map]
        have := ih k
        simp only [widsOf] at this
        omega
  have := h s.fair.lanes k
  unfold allT ids fids
  simp only [List.length_append, widsOf, List.length_map] at this ⊢
  omega
theorem allT_ids (s : TState) : widsOf (allT s s.fair.lanes.length) = ids s := by
  unfold allT ids fids
  rw [List.take_length]
  simp [widsOf, List.map_flatMap]
theorem twice_no {l : List TTicket} (h : (widsOf l).Nodup) {j k : Nat} {a b : TTicket} (hj : j < k) (ha : l[k]? = some a) (hb : l[j]? = some b) : ¬ b.iD = a.iD := by
  intro e
  obtain ⟨h1, rfl⟩ := List.getElem?_eq_some_iff.1 ha
  obtain ⟨h2, rfl⟩ := List.getElem?_eq_some_iff.1 hb
  refine (List.pairwise_iff_getElem.1 h) j k (by simp [widsOf]; omega) (by simp [widsOf]; omega) hj ?_
  simpa [widsOf] using e

theorem levelKeeps_ok (lv : TLevel) (l : List TOp23) (hl : l.length ≤ maxLen) (hw : ∀ x, x ∈ l → x.wf) : PCall Try.prog 18 [.agg (Enc.enc lv), .sl (rws l) none] (· = .bool true) := by
  have c0 := awake23_ok
  unfold maxLen at hl
  have a1 := lopen_ok lv
  have a2 := lopen_keep lv
  have a3 := lopen_known lv
  generalize lopen lv = A at *
  refine PCall_intro (c := Try.f18.body.getD .skip) Try.func18 rfl (by decide +kernel) Zf (W_start ?_)
  simp only [Try.f18, go_sem]
  repeat' first | refine Z0 ?_ | refine Zx ?_ | refine Zc c0 ?_ | refine Zc a1 ?_ | (refine Ze ?_; clear hK K) | refine W_reg fun K hK => ?_ | refine W_drwR rfl mixed (by decide +kernel) fun K hK => ?_ | refine W_drw mixed (by decide +kernel) fun K hK => ?_ | (refine Zb ?_ ?_ <;> intro hb <;> first | (simp (disch := omega) only [go_sem] at hb; done) | (simp (disch := omega) only [go_sem] at hb; try omega) | try omega) | (refine Zl ?_; intro bn hnil; (try simp (disch := omega) only [go_sem] at hnil); dsimp only [putT, List.set_cons_succ, List.set_cons_zero])
  refine W_foldM (fun (a : Nat × TState × Nat × Nat) => [none, none, none, none, some .junk, none, some (.int .i64 a.2.2.1), some (.int .i64 a.2.2.2), some (.int .i64 a.1), some .junk, some .junk, some .junk, some .junk, some .junk, some .junk, some .junk, none, none, none, some (.junk), some .junk, some .junk, some .junk, some .junk, some .junk, some .junk, some .junk, some .junk, some .junk, some .junk, some .junk, some .junk, some .junk, some .junk, some .junk, some .junk, some .junk, some .junk, some .junk, some .junk, some .junk, some .junk, some .junk, some .junk, some .junk, some .junk, some .junk, some .junk, some .junk, some .junk, some .junk, some .junk, some .junk, some .junk, some .junk, some .junk, some .junk, some .junk, some .junk, some .junk, some .junk, some .junk, some .junk, some .junk, some .junk, some .junk, some .junk, some .junk, some .junk, some .junk, some .junk, some .junk, some .junk, some .junk, some .junk, some .junk, some .junk, some .junk, some .junk, some .junk, some .junk, some .junk, some .junk, some .junk, some .junk, some .junk, some .junk, some .junk, some .junk, some .junk, some .junk, some .junk, some .junk, some .junk, some .junk, some .junk, some .junk, some .junk, some .junk, some .junk, some .junk, some .junk, some .junk, some .junk, some .junk, some .junk, some .junk, some .junk, some .junk, some .junk, some .junk, some .junk, some .junk, some .junk, some .junk, some .junk, some .junk, some .junk, some .junk, some .junk, some .junk, some .junk, some .junk, some .junk]) (fun a => [(6, .arr 23 [stR a.2.1 (.sl (rws a.2.1.running) none)])])
    (fun a => a.1 ≤ l.length ∧ a.1 ≤ 100 ∧ keeps a.1 a.2.1 ∧ known a.1 a.2.1 (a.2.2.1 - a.2.2.2) ∧ a.2.2.2 ≤ a.2.2.1 ∧ a.2.2.1 ≤ a.1) (fun a => l.length - a.1) (0, A, 0, 0) ⟨by simp, by simp, a2, a3, by simp, by simp⟩ (by exact weak_mk wkD wkH wkN wkM (by omega)) ?_
  clear c0 a1 a2 a3
  rintro ⟨i, s, inn, out⟩ ⟨hi, h100, hs, hkn, hio, hin⟩
  simp only [] at hi h100 hs hkn hio hin
  simp only [msk_none, msk_some, msk_nil]
  rcases Nat.lt_or_ge i l.length with h4 | h4
  · rcases Nat.lt_or_ge i 100 with h5 | h5
    · obtain ⟨o, ho⟩ := some_of_lt h4
      have how := hw o (List.mem_of_getElem? ho)
      have k1 := stepN_keep (o := own o i) hs h100 how.2.2.2.1.2
      have k2 := stepN_known (o := own o i) hkn rfl
      have c1 := step_ok s (own o i) (hs.f.mono (by omega) (by omega)) (by have := hs.r; omega) hs.l how.2.2.1.1
      have c2 := lwants_ok s (hs.f.mono (by omega) (by omega)) (by have := hs.r; omega)
      have c3 := lwants_ok (stepN s (own o i)).1 (k1.f.mono (by omega) (by omega)) (by have := k1.r; omega)
      have c4 := lempty_ok (stepN s (own o i)).1 (k1.f.mono (by omega) (by omega)) (by have := k1.r; omega)
      generalize stepN s (own o i) = R at *
      obtain ⟨B, W⟩ := R
      simp only [stL] at c1 k1 k2 c3 c4
      dsimp only [own, d8] at k2
      have b2 := runsL_le s.running
      have hkr := k1.r
      have kn := k1.f
      have hlk : B.fair.lanes.length ≤ 64 := kn.1
      have zz1 := rws_get ho
      repeat' first | refine Z1 ?_ | refine Zx ?_ | refine Zc c1 ?_ | (refine Ze ?_; clear hK K) | refine W_regNe 11 (by decide) fun K hK => ?_ | refine W_drwRNe 11 (by decide) rfl mixed (by decide +kernel) fun K hK => ?_ | refine W_drwNe 11 (by decide) mixed (by decide +kernel) fun K hK => ?_ | (refine Zb ?_ ?_ <;> intro hb <;> first | (simp (disch := omega) only [go_sem, zz1] at hb; done) | (simp (disch := omega) only [go_sem, zz1] at hb; try omega) | try omega) | (refine Zl ?_; intro bn hnil; (try simp (disch := omega) only [go_sem, zz1] at hnil); dsimp only [putT, List.set_cons_succ, List.set_cons_zero])
      refine W_cutH (fun (g : Nat × Nat) => [none, none, none, none, none, none, some (.int .i64 g.1), some (.int .i64 g.2), none, none, none, none, none, none, none, none, none, none, none, none, none, none, none, none, none, none, none, none, none, none, none, none, none, none, none, none, none, none, none, none, none, none, none, none, some .junk, some .junk, some .junk, some .junk, some .junk, some .junk, some .junk, some .junk, some .junk, some .junk, some .junk, some .junk, some .junk, some .junk, some .junk, some .junk, some .junk, some .junk, some .junk, some .junk, some .junk, some .junk]) (fun _ => [(36, .arr 23 [stR B (.sl (rws B.running) none)]), (23, .arr 19 [Enc.enc (own o i)]), (6, .arr 23 [stR s (.sl (rws s.running) none)])])
        (fun g => known (i + 1) B (g.1 - g.2) ∧ g.2 ≤ g.1 ∧ g.1 ≤ i + 1) ?_ ?_
      · clear c1 c4
        generalize wants s = Wa at *
        generalize wants B = Wb at *
        rcases k2 with ⟨q | q, ⟨w, k⟩ | ⟨w, k⟩⟩ | ⟨q | q | q, k, kl⟩ | ⟨q1, q2, k⟩
        · have zz1 := q
          have zz2 := w
          repeat' first | refine Z2 ?_ | refine Zx ?_ | refine Zc c2 ?_ | refine Zc c3 ?_ | (refine Ze ?_; clear hK K) | refine W_reg fun K hK => ?_ | refine W_drwR rfl mixed (by decide +kernel) fun K hK => ?_ | refine W_drw mixed (by decide +kernel) fun K hK => ?_ | (refine Zb ?_ ?_ <;> intro hb <;> first | (simp (disch := omega) only [go_sem, zz1, zz2] at hb; done) | (simp (disch := omega) only [go_sem, zz1, zz2] at hb; try omega) | try omega) | (refine Zl ?_; intro bn hnil; (try simp (disch := omega) only [go_sem, zz1, zz2] at hnil); dsimp only [putT, List.set_cons_succ, List.set_cons_zero])
          all_goals exact N_cut (inn + 1, out) ⟨by rw [show (inn + 1, out).1 - (inn + 1, out).2 = inn - out + 1 by simp only []; omega]; exact k, by simp only []; omega, by simp only []; omega⟩ (by exact weak_mk wkD wkH wkN wkM (by omega))
        · have zz1 := q
          have zz2 := w
          repeat' first | refine Z2 ?_ | refine Zx ?_ | refine Zc c2 ?_ | refine Zc c3 ?_ | (refine Ze ?_; clear hK K) | refine W_reg fun K hK => ?_ | refine W_drwR rfl mixed (by decide +kernel) fun K hK => ?_ | refine W_drw mixed (by decide +kernel) fun K hK => ?_ | (refine Zb ?_ ?_ <;> intro hb <;> first | (simp (disch := omega) only [go_sem, zz1, zz2] at hb; done) | (simp (disch := omega) only [go_sem, zz1, zz2] at hb; try omega) | try omega) | (refine Zl ?_; intro bn hnil; (try simp (disch := omega) only [go_sem, zz1, zz2] at hnil); dsimp only [putT, List.set_cons_succ, List.set_cons_zero])
          all_goals exact N_cut (inn, out) ⟨k, by simp only []; omega, by simp only []; omega⟩ (by exact weak_mk wkD wkH wkN wkM (by omega))
        · have zz1 := q
          have zz2 := w
          repeat' first | refine Z2 ?_ | refine Zx ?_ | refine Zc c2 ?_ | refine Zc c3 ?_ | (refine Ze ?_; clear hK K) | refine W_reg fun K hK => ?_ | refine W_drwR rfl mixed (by decide +kernel) fun K hK => ?_ | refine W_drw mixed (by decide +kernel) fun K hK => ?_ | (refine Zb ?_ ?_ <;> intro hb <;> first | (simp (disch := omega) only [go_sem, zz1, zz2] at hb; done) | (simp (disch := omega) only [go_sem, zz1, zz2] at hb; try omega) | try omega) | (refine Zl ?_; intro bn hnil; (try simp (disch := omega) only [go_sem, zz1, zz2] at hnil); dsimp only [putT, List.set_cons_succ, List.set_cons_zero])
          all_goals exact N_cut (inn + 1, out) ⟨by rw [show (inn + 1, out).1 - (inn + 1, out).2 = inn - out + 1 by simp only []; omega]; exact k, by simp only []; omega, by simp only []; omega⟩ (by exact weak_mk wkD wkH wkN wkM (by omega))
        · have zz1 := q
          have zz2 := w
          repeat' first | refine Z2 ?_ | refine Zx ?_ | refine Zc c2 ?_ | refine Zc c3 ?_ | (refine Ze ?_; clear hK K) | refine W_reg fun K hK => ?_ | refine W_drwR rfl mixed (by decide +kernel) fun K hK => ?_ | refine W_drw mixed (by decide +kernel) fun K hK => ?_ | (refine Zb ?_ ?_ <;> intro hb <;> first | (simp (disch := omega) only [go_sem, zz1, zz2] at hb; done) | (simp (disch := omega) only [go_sem, zz1, zz2] at hb; try omega) | try omega) | (refine Zl ?_; intro bn hnil; (try simp (disch := omega) only [go_sem, zz1, zz2] at hnil); dsimp only [putT, List.set_cons_succ, List.set_cons_zero])
          all_goals exact N_cut (inn, out) ⟨k, by simp only []; omega, by simp only []; omega⟩ (by exact weak_mk wkD wkH wkN wkM (by omega))
        · have zz1 := q
          repeat' first | refine Z1 ?_ | refine Zx ?_ | (refine Ze ?_; clear hK K) | refine W_reg fun K hK => ?_ | refine W_drwR rfl mixed (by decide +kernel) fun K hK => ?_ | refine W_drw mixed (by decide +kernel) fun K hK => ?_ | (refine Zb ?_ ?_ <;> intro hb <;> first | (simp (disch := omega) only [go_sem, zz1] at hb; done) | (simp (disch := omega) only [go_sem, zz1] at hb; try omega) | try omega) | (refine Zl ?_; intro bn hnil; (try simp (disch := omega) only [go_sem, zz1] at hnil); dsimp only [putT, List.set_cons_succ, List.set_cons_zero])
          all_goals exact N_cut (inn, out + W.length) ⟨by rw [show (inn, out + W.length).1 - (inn, out + W.length).2 = inn - out - W.length by simp only []; omega]; exact k, by simp only []; omega, by simp only []; omega⟩ (by exact weak_mk wkD wkH wkN wkM (by omega))
        · have zz1 := q
          repeat' first | refine Z1 ?_ | refine Zx ?_ | (refine Ze ?_; clear hK K) | refine W_reg fun K hK => ?_ | refine W_drwR rfl mixed (by decide +kernel) fun K hK => ?_ | refine W_drw mixed (by decide +kernel) fun K hK => ?_ | (refine Zb ?_ ?_ <;> intro hb <;> first | (simp (disch := omega) only [go_sem, zz1] at hb; done) | (simp (disch := omega) only [go_sem, zz1] at hb; try omega) | try omega) | (refine Zl ?_; intro bn hnil; (try simp (disch := omega) only [go_sem, zz1] at hnil); dsimp only [putT, List.set_cons_succ, List.set_cons_zero])
          all_goals exact N_cut (inn, out + W.length) ⟨by rw [show (inn, out + W.length).1 - (inn, out + W.length).2 = inn - out - W.length by simp only []; omega]; exact k, by simp only []; omega, by simp only []; omega⟩ (by exact weak_mk wkD wkH wkN wkM (by omega))
        · have zz1 := q
          repeat' first | refine Z1 ?_ | refine Zx ?_ | (refine Ze ?_; clear hK K) | refine W_reg fun K hK => ?_ | refine W_drwR rfl mixed (by decide +kernel) fun K hK => ?_ | refine W_drw mixed (by decide +kernel) fun K hK => ?_ | (refine Zb ?_ ?_ <;> intro hb <;> first | (simp (disch := omega) only [go_sem, zz1] at hb; done) | (simp (disch := omega) only [go_sem, zz1] at hb; try omega) | try omega) | (refine Zl ?_; intro bn hnil; (try simp (disch := omega) only [go_sem, zz1] at hnil); dsimp only [putT, List.set_cons_succ, List.set_cons_zero])
          all_goals exact N_cut (inn, out + W.length) ⟨by rw [show (inn, out + W.length).1 - (inn, out + W.length).2 = inn - out - W.length by simp only []; omega]; exact k, by simp only []; omega, by simp only []; omega⟩ (by exact weak_mk wkD wkH wkN wkM (by omega))
        · obtain ⟨p0, p1⟩ := not_or.1 q1
          obtain ⟨p3, p4⟩ := not_or.1 q2
          obtain ⟨p4, p5⟩ := not_or.1 p4
          have zz1 := p0
          have zz2 := p1
          have zz3 := p3
          have zz4 := p4
          have zz5 := p5
          repeat' first | refine Z5 ?_ | refine Zx ?_ | (refine Ze ?_; clear hK K) | refine W_reg fun K hK => ?_ | refine W_drwR rfl mixed (by decide +kernel) fun K hK => ?_ | refine W_drw mixed (by decide +kernel) fun K hK => ?_ | (refine Zb ?_ ?_ <;> intro hb <;> first | (simp (disch := omega) only [go_sem, zz1, zz2, zz3, zz4, zz5] at hb; done) | (simp (disch := omega) only [go_sem, zz1, zz2, zz3, zz4, zz5] at hb; try omega) | try omega) | (refine Zl ?_; intro bn hnil; (try simp (disch := omega) only [go_sem, zz1, zz2, zz3, zz4, zz5] at hnil); dsimp only [putT, List.set_cons_succ, List.set_cons_zero])
          all_goals exact N_cut (inn, out) ⟨k, by simp only []; omega, by simp only []; omega⟩ (by exact weak_mk wkD wkH wkN wkM (by omega))
      · clear c1 c2 c3 k2 hkn hio hin
        rintro ⟨inn, out⟩ ⟨hkn, hio, hin⟩
        simp only [] at hkn hio hin
        simp only [msk_none, msk_some, msk_nil]
        have hal := allT_len B
        rw [hkn.n] at hal
        repeat' first | refine Z0 ?_ | refine Zx ?_ | (refine Ze ?_; clear hK K) | refine W_regNe 22 (by decide) fun K hK => ?_ | refine W_drwRNe 22 (by decide) rfl mixed (by decide +kernel) fun K hK => ?_ | refine W_drwNe 22 (by decide) mixed (by decide +kernel) fun K hK => ?_ | (refine Zb ?_ ?_ <;> intro hb <;> first | (simp (disch := omega) only [go_sem] at hb; done) | (simp (disch := omega) only [go_sem] at hb; try omega) | try omega) | (refine Zl ?_; intro bn hnil; (try simp (disch := omega) only [go_sem] at hnil); dsimp only [putT, List.set_cons_succ, List.set_cons_zero])
        (apply W_unbornAt 12 5; (case ht => exact rfl); (case e => exact sT); (case hn => exact nT))
        repeat' first | refine Z0 ?_ | refine Zx ?_ | (refine Ze ?_; clear hK K) | refine W_reg fun K hK => ?_ | refine W_drwR rfl mixed (by decide +kernel) fun K hK => ?_ | refine W_drw mixed (by decide +kernel) fun K hK => ?_ | (refine Zb ?_ ?_ <;> intro hb <;> first | (simp (disch := omega) only [go_sem] at hb; done) | (simp (disch := omega) only [go_sem] at hb; try omega) | try omega) | (refine Zl ?_; intro bn hnil; (try simp (disch := omega) only [go_sem] at hnil); dsimp only [putT, List.set_cons_succ, List.set_cons_zero])
        refine W_foldA (id := 42) (fun id (k : Nat) => [none, none, none, none, none, none, none, none, none, none, none, none, some (.ref id (allT B k).length 0 (allT B k).length false (allT B k).length), some (.int .i64 k), none, none, none, none, none, none, none, none, none, none, none, none, none, none, none, none, none, none, none, none, none, none, none, none, none, none, none, none, none, none, none, none, none, none, none, none, none, none, none, none, none, none, none, none, none, none, none, none, none, none, none, none, none, some (.junk), none, none, some (.junk), some .junk, some .junk, some .junk, some .junk, some .junk, some .junk, some .junk, some .junk, some .junk, some .junk, some .junk, some .junk, some .junk, some .junk, some .junk, some .junk, some .junk]) (fun k => rws (allT B k)) (fun k => k ≤ B.fair.lanes.length) (fun k => B.fair.lanes.length - k) 0 (by omega) (by simp only [allT_zero]; exact (by exact weak_mk wkD wkH wkN wkM (by omega))) ?_
        rintro k hk
        simp only [msk_none, msk_some, msk_nil]
        have hak := hal k
        rcases Nat.lt_or_ge k B.fair.lanes.length with h6 | h6
        · obtain ⟨x, hx⟩ := some_of_lt h6
          have e1 := allT_succ hx
          have e2 : (allT B (k + 1)).length = (allT B k).length + x.wait.length := by rw [e1, List.length_append]
          have e3 := hal (k + 1)
          have e4 : rws (allT B k) ++ rws x.wait = rws (allT B (k + 1)) := by rw [e1, rws_append]
          have zz1 := rws_get hx
          have zz2 := e4
          repeat' first | refine Z2 ?_ | refine Zx ?_ | (refine Ze ?_; clear hK K) | refine W_reg fun K hK => ?_ | refine W_drwR rfl mixed (by decide +kernel) fun K hK => ?_ | refine W_drw mixed (by decide +kernel) fun K hK => ?_ | (refine Zb ?_ ?_ <;> intro hb <;> first | (simp (disch := omega) only [go_sem, zz1, zz2] at hb; done) | (simp (disch := omega) only [go_sem, zz1, zz2] at hb; try omega) | try omega) | (refine Zl ?_; intro bn hnil; (try simp (disch := omega) only [go_sem, zz1, zz2] at hnil); dsimp only [putT, List.set_cons_succ, List.set_cons_zero])
          exact L_next ⟨k + 1, by omega, by omega, by simp only [e2]; exact (by exact weak_mk wkD wkH wkN wkM (by omega))⟩
        · obtain rfl : k = B.fair.lanes.length := by omega
          have hnd : (widsOf (allT B B.fair.lanes.length)).Nodup := by rw [allT_ids]; exact hkn.d
          have hn : (allT B B.fair.lanes.length).length = inn - out := by
            have := congrArg List.length (allT_ids B)
            rw [hkn.n] at this
            simpa [widsOf] using this
          have he : lempty B = decide (inn - out = 0) := by
            rw [lempty_ids, ← hkn.n]
            simp
          rw [he] at c4
          clear he
          generalize allT B B.fair.lanes.length = all at *
          repeat' first | refine Z0 ?_ | refine Zx ?_ | (refine Ze ?_; clear hK K) | refine W_regNe 27 (by decide) fun K hK => ?_ | refine W_drwRNe 27 (by decide) rfl mixed (by decide +kernel) fun K hK => ?_ | refine W_drwNe 27 (by decide) mixed (by decide +kernel) fun K hK => ?_ | (refine Zb ?_ ?_ <;> intro hb <;> first | (simp (disch := omega) only [go_sem] at hb; done) | (simp (disch := omega) only [go_sem] at hb; try omega) | try omega) | (refine Zl ?_; intro bn hnil; (try simp (disch := omega) only [go_sem] at hnil); dsimp only [putT, List.set_cons_succ, List.set_cons_zero])
          (apply W_frzT 12 (all); (case ht => exact rfl); (case hl => simp only [go_sem]; exact rfl); (case e => first | rfl | (simp; done) | (simp [rws, Enc.enc]; done)); (case hn => first | rfl | simp); (case e1 => exact subT); (case e2 => exact subU))
          repeat' first | refine Z0 ?_ | refine Zx ?_ | (refine Ze ?_; clear hK K) | refine W_reg fun K hK => ?_ | refine W_drwR rfl mixed (by decide +kernel) fun K hK => ?_ | refine W_drw mixed (by decide +kernel) fun K hK => ?_ | (refine Zb ?_ ?_ <;> intro hb <;> first | (simp (disch := omega) only [go_sem] at hb; done) | (simp (disch := omega) only [go_sem] at hb; try omega) | try omega) | (refine Zl ?_; intro bn hnil; (try simp (disch := omega) only [go_sem] at hnil); dsimp only [putT, List.set_cons_succ, List.set_cons_zero])
          refine W_foldK (fun (k : Nat) => [none, none, none, none, some .junk, none, none, none, none, none, none, none, none, none, some (.int .i64 k), some .junk, none, none, none, none, none, none, none, none, none, none, none, none, none, none, none, none, none, none, none, none, none, none, none, none, none, none, none, none, none, none, none, none, none, none, none, none, none, none, none, none, none, none, none, none, none, none, none, none, none, none, none, none, none, none, none, none, none, none, none, none, none, none, none, none, none, none, none, none, none, none, none, none, some .junk, some .junk, some .junk, some .junk, some .junk, some .junk, some .junk, some .junk, some .junk, some .junk, some .junk, some .junk, some .junk, some .junk, some .junk, some .junk, some .junk, some .junk, some .junk, some .junk, some .junk, some .junk]) (fun k => k ≤ all.length) (fun k => all.length - k) 0 (by omega) (by exact weak_mk wkD wkH wkN wkM (by omega)) ?_
          intro k hk2
          simp only [msk_none, msk_some, msk_nil]
          rcases Nat.lt_or_ge k all.length with h7 | h7
          · obtain ⟨a, ha⟩ := some_of_lt h7
            repeat' first | refine Z0 ?_ | refine Zx ?_ | (refine Ze ?_; clear hK K) | refine W_reg fun K hK => ?_ | refine W_drwR rfl mixed (by decide +kernel) fun K hK => ?_ | refine W_drw mixed (by decide +kernel) fun K hK => ?_ | (refine Zb ?_ ?_ <;> intro hb <;> first | (simp (disch := omega) only [go_sem] at hb; done) | (simp (disch := omega) only [go_sem] at hb; try omega) | try omega) | (refine Zl ?_; intro bn hnil; (try simp (disch := omega) only [go_sem] at hnil); dsimp only [putT, List.set_cons_succ, List.set_cons_zero])
            refine W_foldK (fun (j : Nat) => [none, none, none, none, some .junk, none, none, none, none, none, none, none, none, none, none, some (.int .i64 j), none, none, none, none, none, none, none, none, none, none, none, none, none, none, none, none, none, none, none, none, none, none, none, none, none, none, none, none, none, none, none, none, none, none, none, none, none, none, none, none, none, none, none, none, none, none, none, none, none, none, none, none, none, none, none, none, none, none, none, none, none, none, none, none, none, none, none, none, none, none, none, none, none, none, none, none, none, none, some .junk, some .junk, some .junk, some .junk, some .junk, some .junk, some .junk, some .junk, some .junk, some .junk, some .junk, some .junk, some .junk, some .junk, some .junk, some .junk]) (fun j => j ≤ k) (fun j => k - j) 0 (by omega) (by exact weak_mk wkD wkH wkN wkM (by omega)) ?_
            intro j hj
            simp only [msk_none, msk_some, msk_nil]
            rcases Nat.lt_or_ge j k with h8 | h8
            · obtain ⟨b, hb⟩ := some_of_lt (l := all) (i := j) (by omega)
              have ne := twice_no hnd h8 ha hb
              have zz1 := rws_get ha
              have zz2 := rws_get hb
              have zz3 := ne
              repeat' first | refine Z3 ?_ | refine Zx ?_ | (refine Ze ?_; clear hK K) | refine W_reg fun K hK => ?_ | refine W_drwR rfl mixed (by decide +kernel) fun K hK => ?_ | refine W_drw mixed (by decide +kernel) fun K hK => ?_ | (refine Zb ?_ ?_ <;> intro hb <;> first | (simp (disch := omega) only [go_sem, zz1, zz2, zz3] at hb; done) | (simp (disch := omega) only [go_sem, zz1, zz2, zz3] at hb; try omega) | try omega) | (refine Zl ?_; intro bn hnil; (try simp (disch := omega) only [go_sem, zz1, zz2, zz3] at hnil); dsimp only [putT, List.set_cons_succ, List.set_cons_zero])
              exact L_next ⟨j + 1, by omega, by omega, (by exact weak_mk wkD wkH wkN wkM (by omega))⟩
            · repeat' first | refine Z0 ?_ | refine Zx ?_ | (refine Ze ?_; clear hK K) | refine W_reg fun K hK => ?_ | refine W_drwR rfl mixed (by decide +kernel) fun K hK => ?_ | refine W_drw mixed (by decide +kernel) fun K hK => ?_ | (refine Zb ?_ ?_ <;> intro hb <;> first | (simp (disch := omega) only [go_sem] at hb; done) | (simp (disch := omega) only [go_sem] at hb; try omega) | try omega) | (refine Zl ?_; intro bn hnil; (try simp (disch := omega) only [go_sem] at hnil); dsimp only [putT, List.set_cons_succ, List.set_cons_zero])
              exact L_next ⟨k + 1, by omega, by omega, (by exact weak_mk wkD wkH wkN wkM (by omega))⟩
          · by_cases hz : inn = out
            · rw [decide_eq_true (by omega)] at c4
              have zz1 := hn
              repeat' first | refine Z1 ?_ | refine Zx ?_ | refine Zc c4 ?_ | (refine Ze ?_; clear hK K) | refine W_reg fun K hK => ?_ | refine W_drwR rfl mixed (by decide +kernel) fun K hK => ?_ | refine W_drw mixed (by decide +kernel) fun K hK => ?_ | (refine Zb ?_ ?_ <;> intro hb <;> first | (simp (disch := omega) only [go_sem, zz1] at hb; done) | (simp (disch := omega) only [go_sem, zz1] at hb; try omega) | try omega) | (refine Zl ?_; intro bn hnil; (try simp (disch := omega) only [go_sem, zz1] at hnil); dsimp only [putT, List.set_cons_succ, List.set_cons_zero])
              all_goals exact L_next ⟨(i + 1, B, inn, out), by simp; omega, ⟨by simp; omega, by simp; omega, k1, hkn, by simp; omega, by simp; omega⟩, (by exact weak_mk wkD wkH wkN wkM (by omega))⟩
            · rw [decide_eq_false (by omega)] at c4
              have zz1 := hn
              repeat' first | refine Z1 ?_ | refine Zx ?_ | refine Zc c4 ?_ | (refine Ze ?_; clear hK K) | refine W_reg fun K hK => ?_ | refine W_drwR rfl mixed (by decide +kernel) fun K hK => ?_ | refine W_drw mixed (by decide +kernel) fun K hK => ?_ | (refine Zb ?_ ?_ <;> intro hb <;> first | (simp (disch := omega) only [go_sem, zz1] at hb; done) | (simp (disch := omega) only [go_sem, zz1] at hb; try omega) | try omega) | (refine Zl ?_; intro bn hnil; (try simp (disch := omega) only [go_sem, zz1] at hnil); dsimp only [putT, List.set_cons_succ, List.set_cons_zero])
              all_goals exact L_next ⟨(i + 1, B, inn, out), by simp; omega, ⟨by simp; omega, by simp; omega, k1, hkn, by simp; omega, by simp; omega⟩, (by exact weak_mk wkD wkH wkN wkM (by omega))⟩
    · repeat' first | refine Z0 ?_ | refine Zx ?_ | (refine Ze ?_; clear hK K) | refine W_reg fun K hK => ?_ | refine W_drwR rfl mixed (by decide +kernel) fun K hK => ?_ | refine W_drw mixed (by decide +kernel) fun K hK => ?_ | (refine Zb ?_ ?_ <;> intro hb <;> first | (simp (disch := omega) only [go_sem] at hb; done) | (simp (disch := omega) only [go_sem] at hb; try omega) | try omega) | (refine Zl ?_; intro bn hnil; (try simp (disch := omega) only [go_sem] at hnil); dsimp only [putT, List.set_cons_succ, List.set_cons_zero])
      exact Zr
  · repeat' first | refine Z0 ?_ | refine Zx ?_ | (refine Ze ?_; clear hK K) | refine W_reg fun K hK => ?_ | refine W_drwR rfl mixed (by decide +kernel) fun K hK => ?_ | refine W_drw mixed (by decide +kernel) fun K hK => ?_ | (refine Zb ?_ ?_ <;> intro hb <;> first | (simp (disch := omega) only [go_sem] at hb; done) | (simp (disch := omega) only [go_sem] at hb; try omega) | try omega) | (refine Zl ?_; intro bn hnil; (try simp (disch := omega) only [go_sem] at hnil); dsimp only [putT, List.set_cons_succ, List.set_cons_zero])
    exact Zr

end Go.Proofs.Ytdgjelfeclgolaa
