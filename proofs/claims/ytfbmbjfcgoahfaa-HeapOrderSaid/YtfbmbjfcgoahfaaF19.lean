/-
  HeapPlays; walked.
-/
import Derived.Test.YtfbmbjfcgoahfaaF18
namespace Go.Proofs.Ytfbmbjfcgoahfaa
open Go Go.AM
set_option maxHeartbeats 8000000
set_option maxRecDepth 8000
set_option linter.unusedSimpArgs false
set_option linter.unusedVariables false
attribute [go_sem] zItem

theorem View.small4 {s : HS} {l : List TItem} (v : View s l) : l.length ≤ 4096 := by have h1 := v.n; have h2 := v.g.le; have h3 := v.g.len; omega

theorem getL_at {l : List TItem} {id : Int} {b : Nat} {x : TItem} (h1 : l[b]? = some x) (h2 : x.iD = id) (h3 : ∀ k y, k < b → l[k]? = some y → (decide (y.iD = id)) = false) : getL l id = (x, true) := by
  have : l.find? (fun y => decide (y.iD = id)) = some x := by
    obtain ⟨hb, hx⟩ := List.getElem?_eq_some_iff.1 h1
    rw [List.find?_eq_some_iff_getElem]
    refine ⟨by simp [h2], b, hb, hx, fun j hj => ?_⟩
    have := h3 j l[j] hj (List.getElem?_eq_getElem _)
    simpa using this
  unfold getL
  rw [this]

theorem heapPlays_ok (ops : List TOp4) (hl : ops.length ≤ maxLen) (hw : ∀ d, d ∈ ops → d.wf) : PCall Try.prog 10 [.sl (rws ops) none] (· = .bool true) := by
  have c0 := awake4_ok
  unfold maxLen at hl
  refine PCall_intro (c := Try.f10.body.getD .skip) Try.func10 rfl (by decide +kernel) Zf (W_start ?_)
  simp only [Try.f10, go_sem]
  repeat' first
    | refine Z0 ?_
    | refine Zx ?_
    | refine Zc c0 ?_
    | refine Zbn new_N ?_
    | (refine Ze ?_; clear hK K)
    | refine W_reg fun K hK => ?_
    | refine W_drwR rfl mixed (by decide +kernel) fun K hK => ?_
    | refine W_drw mixed (by decide +kernel) fun K hK => ?_
    | (refine Zb ?_ ?_ <;> intro hb <;> first | (simp (disch := omega) only [go_sem] at hb; done) | (simp (disch := omega) only [go_sem] at hb; try omega) | try omega)
    | (refine Zl ?_; intro bn hnil; (try simp (disch := omega) only [go_sem] at hnil); dsimp only [putT, List.set_cons_succ, List.set_cons_zero])
  (apply W_forgetT 4 (([] : List TItem)); (case ht => exact rfl); (case e => rfl); (case e1 => exact sT))
  refine W_foldMC (fun (a : Nat × HS × List TItem) => [none, none, some .junk, none, some (.sl (rws a.2.2) none), some (.int .i64 a.1), some .junk, some .junk, some .junk, some .junk, some .junk, some .junk, some .junk, some .junk, some .junk, none, none, none, some .junk, some .junk, some .junk, some .junk, some .junk, some .junk, some .junk, some .junk, some .junk, some .junk, some .junk, some .junk, some .junk, some .junk, some .junk, some .junk, some .junk, some .junk, some .junk, some .junk, some .junk, some .junk, some .junk, some .junk, some .junk, some .junk, some .junk, some .junk, some .junk, some .junk, some .junk, some .junk, some .junk, some .junk, some .junk, some .junk, some .junk, some .junk, some .junk, some .junk, some .junk, some .junk, some .junk, some .junk, some .junk, some .junk, some .junk, some .junk, some .junk, some .junk, some .junk, some .junk, some .junk, some .junk, some .junk, some .junk, some .junk, some .junk, some .junk, some .junk, some .junk, some .junk, some .junk, some .junk, some .junk, some .junk, some .junk, some .junk, some .junk, some .junk, some .junk, some .junk, some .junk, some .junk, some .junk, some .junk, some .junk, some .junk, some .junk, some .junk, some .junk, some .junk, some .junk, some .junk, some .junk, some .junk, some .junk, some .junk, some .junk, some .junk, some .junk, some .junk, some .junk, some .junk, some .junk, some .junk, some .junk, some .junk, some .junk, some .junk, some .junk, some .junk, some .junk, some .junk, some .junk, some .junk, some .junk, some .junk, some .junk, some .junk, some .junk, some .junk, some .junk, some .junk, some .junk, some .junk, some .junk, some .junk, some .junk, some .junk, some .junk, some .junk, some .junk, some .junk, some .junk, some .junk, some .junk, some .junk, some .junk, some .junk, some .junk, some .junk, some .junk, some .junk, some .junk, some .junk, some .junk, some .junk, some .junk, some .junk, some .junk, some .junk, some .junk, some .junk, some .junk, some .junk, some .junk, some .junk, some .junk, some .junk, some .junk, some .junk, some .junk, some .junk, some .junk, some .junk, some .junk, some .junk, some .junk, some .junk, some .junk]) (fun a => hobs 6 8 4 a.2.1)
    (fun a => a.1 ≤ ops.length ∧ a.1 ≤ 300 ∧ View a.2.1 a.2.2) (fun a => 300 - a.1) (0, newS, []) ⟨by omega, by omega, View.new⟩ (by exact Can.ofWeak (by exact weak_mk wkD wkH wkN wkM (by omega))) ?_
  rintro ⟨i, s, l⟩ ⟨h1, h2, v⟩
  simp only [] at h1 h2 v
  have hs := v.small4
  simp only [msk_none, msk_some, msk_nil]
  by_cases hi : i < ops.length ∧ i < 300
  · obtain ⟨o, ho⟩ := some_of_lt hi.1
    have how := hw o (List.mem_of_getElem? ho)
    have hwu := wrap_u_ok o.do_
    obtain ⟨q, hq⟩ : ∃ q, (IntKind.u64.wrap o.do_).tmod 6 = q := ⟨_, rfl⟩
    have hq2 : q = 0 ∨ q = 1 ∨ q = 2 ∨ q = 3 ∨ q = 4 ∨ q = 5 := by
      rw [← hq, Int.tmod_eq_emod_of_nonneg hwu.1]; omega
    have zz1 := rws_get ho
    repeat' first
      | refine Z1 ?_
      | refine Zx ?_
      | (refine Ze ?_; clear hK K)
      | refine W_regNe 10 (by decide) fun K hK => ?_
      | refine W_drwRNe 10 (by decide) rfl mixed (by decide +kernel) fun K hK => ?_
      | refine W_drwNe 10 (by decide) mixed (by decide +kernel) fun K hK => ?_
      | (refine Zb ?_ ?_ <;> intro hb <;> first | (simp (disch := omega) only [go_sem, zz1] at hb; done) | (simp (disch := omega) only [go_sem, zz1] at hb; try omega) | try omega)
      | (refine Zl ?_; intro bn hnil; (try simp (disch := omega) only [go_sem, zz1] at hnil); dsimp only [putT, List.set_cons_succ, List.set_cons_zero])
    refine W_cutH (fun (g : HS × List TItem) => [none, none, some .junk, none, some (.sl (rws g.2) none), none, some (.junk), some .junk, some .junk, some .junk, some .junk, some .junk, some .junk, none, none, none, none, none, none, none, none, none, none, none, none, none, none, none, none, none, none, none, some .junk, some .junk, some .junk, some .junk, some .junk, some .junk, some .junk, some .junk, some .junk, some .junk, some .junk, some .junk, some .junk, some .junk, some .junk, some .junk, some .junk, some .junk, some .junk, some .junk, some .junk, some .junk, some .junk, some .junk, some .junk, some .junk, some .junk, some .junk, some .junk, some .junk, some .junk, some .junk, some .junk, some .junk, some .junk, some .junk, some .junk, some .junk, some .junk, some .junk, some .junk, some .junk, some .junk, some .junk, some .junk, some .junk, some .junk, some .junk, some .junk, some .junk, some .junk, some .junk, some .junk, some .junk, some .junk, some .junk, some .junk, some .junk, some .junk, some .junk, some .junk, some .junk, some .junk, some .junk, some .junk, some .junk, some .junk, some .junk, some .junk, some .junk, some .junk, some .junk, some .junk, some .junk, some .junk, some .junk, some .junk, some .junk, some .junk, some .junk, some .junk, some .junk, some .junk, some .junk, some .junk, some .junk, some .junk, some .junk, some .junk, some .junk, some .junk, some .junk, some .junk, some .junk, some .junk, some .junk, some .junk, some .junk, some .junk, some .junk, some .junk, some .junk, some .junk, some .junk, some .junk, some .junk, some .junk, some .junk, some .junk, some .junk, some .junk, some .junk, some .junk, some .junk, some .junk, some .junk, some .junk, some .junk, some .junk, some .junk]) (fun g => hobs 6 8 4 g.1) (fun g => View g.1 g.2) ?_ ?_
    · rcases hq2 with rfl | rfl | rfl | rfl | rfl | rfl
      · obtain ⟨s', v', q1⟩ := push_V v o.x how.2
        have q1 := q1 (H := 6) (a := 8) (m := 4) (by decide)
        have q2 := rpush_ok l o.x (by omega)
        generalize pushL l o.x = PL at *
        obtain ⟨l', e'⟩ := PL
        simp only [] at v' q1 q2
        have zz1 := hq
        repeat' first
          | refine Z1 ?_
          | refine Zx ?_
          | refine Zc q2 ?_
          | refine Zfc q1 ?_
          | (refine Ze ?_; clear hK K)
          | refine W_reg fun K hK => ?_
          | refine W_drwR rfl mixed (by decide +kernel) fun K hK => ?_
          | refine W_drw mixed (by decide +kernel) fun K hK => ?_
          | (refine Zb ?_ ?_ <;> intro hb <;> first | (simp (disch := omega) only [go_sem, zz1] at hb; done) | (simp (disch := omega) only [go_sem, zz1] at hb; try omega) | try omega)
          | (refine Zl ?_; intro bn hnil; (try simp (disch := omega) only [go_sem, zz1] at hnil); dsimp only [putT, List.set_cons_succ, List.set_cons_zero])
        all_goals exact N_cut (s', l') v' (by exact weak_mk wkD wkH wkN wkM (by omega))
      · obtain ⟨s', v', q1⟩ := pop_V v
        have q1 := q1 (H := 6) (a := 8) (m := 4) (by decide)
        cases l with
        | nil =>
          rw [show peekL [] = (zItem, false) from rfl] at q1
          have zz1 := hq
          repeat' first
            | refine Z1 ?_
            | refine Zx ?_
            | refine Zfc q1 ?_
            | (refine Ze ?_; clear hK K)
            | refine W_reg fun K hK => ?_
            | refine W_drwR rfl mixed (by decide +kernel) fun K hK => ?_
            | refine W_drw mixed (by decide +kernel) fun K hK => ?_
            | (refine Zb ?_ ?_ <;> intro hb <;> first | (simp (disch := omega) only [go_sem, zz1] at hb; done) | (simp (disch := omega) only [go_sem, zz1] at hb; try omega) | try omega)
            | (refine Zl ?_; intro bn hnil; (try simp (disch := omega) only [go_sem, zz1] at hnil); dsimp only [putT, List.set_cons_succ, List.set_cons_zero])
          all_goals exact N_cut (s', []) v' (by exact weak_mk wkD wkH wkN wkM (by omega))
        | cons x m =>
          rw [show peekL (x :: m) = (x, true) from rfl] at q1
          obtain ⟨l', hl'⟩ : ∃ l', x :: m = l' := ⟨_, rfl⟩
          have x1 : l'[0]? = some x := by rw [← hl']; rfl
          have x2 : 0 < l'.length := by rw [← hl']; simp
          have x3 : ((rws l').drop 1).take (l'.length - 1) = rws m := by rw [← hl', rws_drop, rws_take]; simp
          rw [show (x :: m).tail = m from rfl] at v'
          rw [hl'] at v hs
          simp only [hl']
          have zz1 := hq
          have zz2 := rws_get x1
          have zz3 := x3
          repeat' first
            | refine Z3 ?_
            | refine Zx ?_
            | refine Zfc q1 ?_
            | (refine Ze ?_; clear hK K)
            | refine W_reg fun K hK => ?_
            | refine W_drwR rfl mixed (by decide +kernel) fun K hK => ?_
            | refine W_drw mixed (by decide +kernel) fun K hK => ?_
            | (refine Zb ?_ ?_ <;> intro hb <;> first | (simp (disch := omega) only [go_sem, zz1, zz2, zz3] at hb; done) | (simp (disch := omega) only [go_sem, zz1, zz2, zz3] at hb; try omega) | try omega)
            | (refine Zl ?_; intro bn hnil; (try simp (disch := omega) only [go_sem, zz1, zz2, zz3] at hnil); dsimp only [putT, List.set_cons_succ, List.set_cons_zero])
          all_goals exact N_cut (s', m) v' (by exact weak_mk wkD wkH wkN wkM (by omega))
      · obtain ⟨s', v', q1⟩ := remove_V v o.x.iD
        have q1 := q1 (H := 6) (a := 8) (m := 4) (by decide)
        have q2 := rremove_ok l o.x.iD (by omega) v.ids
        generalize removeL l o.x.iD = PL at *
        obtain ⟨l', e'⟩ := PL
        simp only [] at v' q1 q2
        have zz1 := hq
        repeat' first
          | refine Z1 ?_
          | refine Zx ?_
          | refine Zc q2 ?_
          | refine Zfc q1 ?_
          | (refine Ze ?_; clear hK K)
          | refine W_reg fun K hK => ?_
          | refine W_drwR rfl mixed (by decide +kernel) fun K hK => ?_
          | refine W_drw mixed (by decide +kernel) fun K hK => ?_
          | (refine Zb ?_ ?_ <;> intro hb <;> first | (simp (disch := omega) only [go_sem, zz1] at hb; done) | (simp (disch := omega) only [go_sem, zz1] at hb; try omega) | try omega)
          | (refine Zl ?_; intro bn hnil; (try simp (disch := omega) only [go_sem, zz1] at hnil); dsimp only [putT, List.set_cons_succ, List.set_cons_zero])
        all_goals exact N_cut (s', l') v' (by exact weak_mk wkD wkH wkN wkM (by omega))
      · obtain ⟨s', v', q1⟩ := change_V v o.x how.2
        have q1 := q1 (H := 6) (a := 8) (m := 4) (by decide)
        have q2 := rchange_ok l o.x (by omega) v.ids
        generalize changeL l o.x = PL at *
        obtain ⟨l', e'⟩ := PL
        simp only [] at v' q1 q2
        have zz1 := hq
        repeat' first
          | refine Z1 ?_
          | refine Zx ?_
          | refine Zc q2 ?_
          | refine Zfc q1 ?_
          | (refine Ze ?_; clear hK K)
          | refine W_reg fun K hK => ?_
          | refine W_drwR rfl mixed (by decide +kernel) fun K hK => ?_
          | refine W_drw mixed (by decide +kernel) fun K hK => ?_
          | (refine Zb ?_ ?_ <;> intro hb <;> first | (simp (disch := omega) only [go_sem, zz1] at hb; done) | (simp (disch := omega) only [go_sem, zz1] at hb; try omega) | try omega)
          | (refine Zl ?_; intro bn hnil; (try simp (disch := omega) only [go_sem, zz1] at hnil); dsimp only [putT, List.set_cons_succ, List.set_cons_zero])
        all_goals exact N_cut (s', l') v' (by exact weak_mk wkD wkH wkN wkM (by omega))
      · have q1 := get_V v o.x.iD (H := 6) (a := 8) (m := 4) (by decide)
        have q2 := rfind_ok l o.x.iD (by omega)
        rcases idx_cases (fun d : TItem => decide (d.iD = o.x.iD)) l with ⟨b, x, e1, e2, e3, e4, e5, e6⟩ | ⟨e1, e2, _⟩
        · rw [e1] at q2
          rw [getL_at e3 (by simpa using e4) e6] at q1
          have zz1 := hq
          have zz2 := rws_get e3
          repeat' first
            | refine Z2 ?_
            | refine Zx ?_
            | refine Zc q2 ?_
            | refine Zfc q1 ?_
            | (refine Ze ?_; clear hK K)
            | refine W_reg fun K hK => ?_
            | refine W_drwR rfl mixed (by decide +kernel) fun K hK => ?_
            | refine W_drw mixed (by decide +kernel) fun K hK => ?_
            | (refine Zb ?_ ?_ <;> intro hb <;> first | (simp (disch := omega) only [go_sem, zz1, zz2] at hb; done) | (simp (disch := omega) only [go_sem, zz1, zz2] at hb; try omega) | try omega)
            | (refine Zl ?_; intro bn hnil; (try simp (disch := omega) only [go_sem, zz1, zz2] at hnil); dsimp only [putT, List.set_cons_succ, List.set_cons_zero])
          all_goals exact N_cut (s, l) v (by exact weak_mk wkD wkH wkN wkM (by omega))
        · rw [e1] at q2
          rw [getL_none e2] at q1
          have zz1 := hq
          repeat' first
            | refine Z1 ?_
            | refine Zx ?_
            | refine Zc q2 ?_
            | refine Zfc q1 ?_
            | (refine Ze ?_; clear hK K)
            | refine W_reg fun K hK => ?_
            | refine W_drwR rfl mixed (by decide +kernel) fun K hK => ?_
            | refine W_drw mixed (by decide +kernel) fun K hK => ?_
            | (refine Zb ?_ ?_ <;> intro hb <;> first | (simp (disch := omega) only [go_sem, zz1] at hb; done) | (simp (disch := omega) only [go_sem, zz1] at hb; try omega) | try omega)
            | (refine Zl ?_; intro bn hnil; (try simp (disch := omega) only [go_sem, zz1] at hnil); dsimp only [putT, List.set_cons_succ, List.set_cons_zero])
          all_goals exact N_cut (s, l) v (by exact weak_mk wkD wkH wkN wkM (by omega))
      · have q1 := list_V v (H := 6) (a := 8) (m := 4) (by decide)
        have q2 := same_ok l l (by omega) (by omega)
        rw [decide_eq_true (rfl : l = l)] at q2
        have zz1 := hq
        repeat' first
          | refine Z1 ?_
          | refine Zx ?_
          | refine Zc q2 ?_
          | refine Zfc q1 ?_
          | (refine Ze ?_; clear hK K)
          | refine W_reg fun K hK => ?_
          | refine W_drwR rfl mixed (by decide +kernel) fun K hK => ?_
          | refine W_drw mixed (by decide +kernel) fun K hK => ?_
          | (refine Zb ?_ ?_ <;> intro hb <;> first | (simp (disch := omega) only [go_sem, zz1] at hb; done) | (simp (disch := omega) only [go_sem, zz1] at hb; try omega) | try omega)
          | (refine Zl ?_; intro bn hnil; (try simp (disch := omega) only [go_sem, zz1] at hnil); dsimp only [putT, List.set_cons_succ, List.set_cons_zero])
        all_goals exact N_cut (s, l) v (by exact weak_mk wkD wkH wkN wkM (by omega))
    rintro ⟨s', l'⟩ v'
    simp only [] at v'
    simp only [msk_none, msk_some, msk_nil]
    have hs' := v'.small4
    have q3 := peek_V v' (H := 6) (a := 8) (m := 4) (by decide)
    have q4 := len_V v' (H := 6) (a := 8) (m := 4) (by decide)
    cases l' with
    | nil =>
      rw [show peekL [] = (zItem, false) from rfl] at q3
      rw [show ((([] : List TItem).length : Nat) : Int) = 0 from rfl] at q4
      repeat' first
        | refine Z0 ?_
        | refine Zx ?_
        | refine Zfc q3 ?_
        | refine Zfc q4 ?_
        | (refine Ze ?_; clear hK K)
        | refine W_reg fun K hK => ?_
        | refine W_drwF mixed (by decide +kernel) fun K hK => ?_
        | (refine Zb ?_ ?_ <;> intro hb <;> first | (simp (disch := omega) only [go_sem] at hb; done) | (simp (disch := omega) only [go_sem] at hb; try omega) | try omega)
        | (refine Zl ?_; intro bn hnil; (try simp (disch := omega) only [go_sem] at hnil); dsimp only [putT, List.set_cons_succ, List.set_cons_zero])
      all_goals exact L_next ⟨(i + 1, s', []), by simp; omega, ⟨by simp; omega, by simp; omega, v'⟩, (by exact Can.ofWeak (by exact weak_mk wkD wkH wkN wkM (by omega)))⟩
    | cons x m =>
      rw [show peekL (x :: m) = (x, true) from rfl] at q3
      obtain ⟨l', hl'⟩ : ∃ l', x :: m = l' := ⟨_, rfl⟩
      have x1 : l'[0]? = some x := by rw [← hl']; rfl
      have x2 : 0 < l'.length := by rw [← hl']; simp
      rw [hl'] at q4 hs' v' ⊢
      have zz1 := rws_get x1
      repeat' first
        | refine Z1 ?_
        | refine Zx ?_
        | refine Zfc q3 ?_
        | refine Zfc q4 ?_
        | (refine Ze ?_; clear hK K)
        | refine W_reg fun K hK => ?_
        | refine W_drwF mixed (by decide +kernel) fun K hK => ?_
        | (refine Zb ?_ ?_ <;> intro hb <;> first | (simp (disch := omega) only [go_sem, zz1] at hb; done) | (simp (disch := omega) only [go_sem, zz1] at hb; try omega) | try omega)
        | (refine Zl ?_; intro bn hnil; (try simp (disch := omega) only [go_sem, zz1] at hnil); dsimp only [putT, List.set_cons_succ, List.set_cons_zero])
      all_goals exact L_next ⟨(i + 1, s', l'), by simp; omega, ⟨by simp; omega, by simp; omega, v'⟩, (by exact Can.ofWeak (by exact weak_mk wkD wkH wkN wkM (by omega)))⟩
  · have c1 := list_V v (H := 6) (a := 8) (m := 4) (by decide)
    have c2 := same_ok l l (by omega) (by omega)
    rw [decide_eq_true (rfl : l = l)] at c2
    repeat' first
      | refine Z0 ?_
      | refine Zx ?_
      | refine Zc c2 ?_
      | refine Zfc c1 ?_
      | (refine Ze ?_; clear hK K)
      | refine W_reg fun K hK => ?_
      | refine W_drwR rfl mixed (by decide +kernel) fun K hK => ?_
      | refine W_drw mixed (by decide +kernel) fun K hK => ?_
      | (refine Zb ?_ ?_ <;> intro hb <;> first | (simp (disch := omega) only [go_sem] at hb; done) | (simp (disch := omega) only [go_sem] at hb; try omega) | try omega)
      | (refine Zl ?_; intro bn hnil; (try simp (disch := omega) only [go_sem] at hnil); dsimp only [putT, List.set_cons_succ, List.set_cons_zero])
    all_goals exact Zr

end Go.Proofs.Ytfbmbjfcgoahfaa
