/-
  The reference's lanes: drops, equality, who is late, seats; walked.
-/
import Derived.Test.YtdgjelfeclgolaaF4
namespace Go.Proofs.Ytdgjelfeclgolaa
open Go Go.AM
set_option maxHeartbeats 4000000
set_option linter.unusedSimpArgs false
set_option linter.unusedVariables false

theorem rdrop_ok (l : TLane) (id : Int) (hl : l.wait.length ≤ 4294967296) : PCall Try.prog 29 [.agg (Enc.enc l), .int .i64 id] (· = laneV (drop l id)) := by
  refine PCall_intro (c := Try.f29.body.getD .skip) Try.func29 rfl (by decide +kernel) Zf (W_start ?_)
  simp only [Try.f29, go_sem]
  repeat' first
    | refine Z0 ?_
    | refine Zx ?_
    | (refine Ze ?_; clear hK K)
    | refine W_reg fun K hK => ?_
    | refine W_drwR rfl mixed (by decide +kernel) fun K hK => ?_
    | refine W_drw mixed (by decide +kernel) fun K hK => ?_
    | (refine Zb ?_ ?_ <;> intro hb <;> first | (simp (disch := omega) only [go_sem] at hb; done) | (simp (disch := omega) only [go_sem] at hb; try omega) | try omega)
    | (refine Zl ?_; intro bn hnil; (try simp (disch := omega) only [go_sem] at hnil); dsimp only [putT, List.set_cons_succ, List.set_cons_zero])
  refine W_foldK (fun (a : Nat) => [none, none, none, none, none, none, some .junk, some (.int .i64 a), some .junk, some .junk, some .junk, some .junk, some .junk, some .junk, some .junk, some .junk, some .junk, some .junk, some .junk, some .junk, some .junk, some .junk, some .junk, some .junk, some .junk, some .junk, some .junk, some .junk, some .junk, some .junk, some .junk, some .junk, some .junk, some .junk, some .junk, some .junk, some .junk, some .junk, some .junk, some .junk, some .junk, some .junk, some .junk, some .junk, some .junk, some .junk, some .junk, some .junk, some .junk, some .junk]) (fun a => a ≤ l.wait.length ∧ ∀ k y, k < a → l.wait[k]? = some y → (y.iD == id) = false) (fun a => l.wait.length - a) 0 ⟨by simp, by omega⟩ (by exact weak_mk wkD wkH wkN wkM (by omega)) ?_
  rintro i ⟨hi, hno⟩
  simp only [msk_none, msk_some, msk_nil]
  rcases Nat.lt_or_ge i l.wait.length with h4 | h4
  · obtain ⟨x, hx⟩ := some_of_lt h4
    by_cases hp : x.iD = id
    · have e0 : idx (fun t : TTicket => t.iD == id) l.wait = i := idx_at hx (by simpa using hp) hno
      have e1 : drop l id = (⟨l.start, l.wait.take i ++ l.wait.drop (i + 1)⟩, x, true) := by
        rw [drop, e0, if_pos (by omega), Int.toNat_natCast, List.getD_eq_getElem?_getD, hx, List.eraseIdx_eq_take_drop_succ]
        rfl
      have t1 : ((i : Int) + 1).toNat = i + 1 := by omega
      have r2 : List.take (l.wait.length - (i + 1)) (List.drop (i + 1) (rws l.wait)) = rws (l.wait.drop (i + 1)) := by rw [rws_drop, rws_take, List.take_of_length_le (by simp)]
      have l2 : (l.wait.drop (i + 1)).length = l.wait.length - (i + 1) := by simp
      obtain ⟨B, hB⟩ : ∃ B, B = l.wait.drop (i + 1) := ⟨_, rfl⟩
      rw [e1]
      rw [← hB] at r2 l2 ⊢
      rcases Nat.eq_zero_or_pos i with h0 | h0
      · subst h0
        simp only [List.take_zero, List.nil_append]
        simp only [Nat.zero_add] at r2 l2
        rcases Nat.eq_zero_or_pos (l.wait.length - 1) with h5 | h5
        · obtain rfl : B = [] := List.length_eq_zero_iff.1 (by omega)
          have e5 : l.wait.length = 1 := by omega
          have zz1 := rws_get hx
          have zz2 := e5
          repeat' first
            | refine Z2 ?_
            | refine Zx ?_
            | (refine Ze ?_; clear hK K)
            | refine W_reg fun K hK => ?_
            | refine W_drwR rfl mixed (by decide +kernel) fun K hK => ?_
            | refine W_drw mixed (by decide +kernel) fun K hK => ?_
            | (refine Zb ?_ ?_ <;> intro hb <;> first | (simp (disch := omega) only [go_sem, zz1, zz2] at hb; done) | (simp (disch := omega) only [go_sem, zz1, zz2] at hb; try omega) | try omega)
            | (refine Zl ?_; intro bn hnil; (try simp (disch := omega) only [go_sem, zz1, zz2] at hnil); dsimp only [putT, List.set_cons_succ, List.set_cons_zero])
          exact Zr
        · have zz1 := rws_get hx
          have zz2 := r2
          have zz3 := l2
          have zz4 := t1
          repeat' first
            | refine Z4 ?_
            | refine Zx ?_
            | (refine Ze ?_; clear hK K)
            | refine W_reg fun K hK => ?_
            | refine W_drwR rfl mixed (by decide +kernel) fun K hK => ?_
            | refine W_drw mixed (by decide +kernel) fun K hK => ?_
            | (refine Zb ?_ ?_ <;> intro hb <;> first | (simp (disch := omega) only [go_sem, zz1, zz2, zz3, zz4] at hb; done) | (simp (disch := omega) only [go_sem, zz1, zz2, zz3, zz4] at hb; try omega) | try omega)
            | (refine Zl ?_; intro bn hnil; (try simp (disch := omega) only [go_sem, zz1, zz2, zz3, zz4] at hnil); dsimp only [putT, List.set_cons_succ, List.set_cons_zero])
          exact Zr
      · have r1 : List.take i (rws l.wait) = rws (l.wait.take i) := by rw [rws_take]
        have l1 : (l.wait.take i).length = i := by simp; omega
        obtain ⟨A, hA⟩ : ∃ A, A = l.wait.take i := ⟨_, rfl⟩
        rw [← hA] at r1 l1 ⊢
        have r3 : rws A ++ rws B = rws (A ++ B) := by rw [rws_append]
        have zz1 := rws_get hx
        have zz2 := r1
        have zz3 := r2
        have zz4 := r3
        have zz5 := t1
        have zz6 := l1
        have zz7 := l2
        repeat' first
          | refine Z7 ?_
          | refine Zx ?_
          | (refine Ze ?_; clear hK K)
          | refine W_reg fun K hK => ?_
          | refine W_drwR rfl mixed (by decide +kernel) fun K hK => ?_
          | refine W_drw mixed (by decide +kernel) fun K hK => ?_
          | (refine Zb ?_ ?_ <;> intro hb <;> first | (simp (disch := omega) only [go_sem, zz1, zz2, zz3, zz4, zz5, zz6, zz7] at hb; done) | (simp (disch := omega) only [go_sem, zz1, zz2, zz3, zz4, zz5, zz6, zz7] at hb; try omega) | try omega)
          | (refine Zl ?_; intro bn hnil; (try simp (disch := omega) only [go_sem, zz1, zz2, zz3, zz4, zz5, zz6, zz7] at hnil); dsimp only [putT, List.set_cons_succ, List.set_cons_zero])
        exact Zr
    · have zz1 := rws_get hx
      repeat' first
        | refine Z1 ?_
        | refine Zx ?_
        | (refine Ze ?_; clear hK K)
        | refine W_reg fun K hK => ?_
        | refine W_drwR rfl mixed (by decide +kernel) fun K hK => ?_
        | refine W_drw mixed (by decide +kernel) fun K hK => ?_
        | (refine Zb ?_ ?_ <;> intro hb <;> first | (simp (disch := omega) only [go_sem, zz1] at hb; done) | (simp (disch := omega) only [go_sem, zz1] at hb; try omega) | try omega)
        | (refine Zl ?_; intro bn hnil; (try simp (disch := omega) only [go_sem, zz1] at hnil); dsimp only [putT, List.set_cons_succ, List.set_cons_zero])
      exact L_next ⟨i + 1, by omega, ⟨by omega, no_step hx (by simpa using hp) hno⟩, (by exact weak_mk wkD wkH wkN wkM (by omega))⟩
  · obtain rfl : i = l.wait.length := by omega
    have e0 : idx (fun t : TTicket => t.iD == id) l.wait = -1 := idx_none hno
    have e1 : drop l id = (l, zeroT, false) := by rw [drop, e0, if_neg (by omega)]
    rw [e1]
    repeat' first
      | refine Z0 ?_
      | refine Zx ?_
      | (refine Ze ?_; clear hK K)
      | refine W_reg fun K hK => ?_
      | refine W_drwR rfl mixed (by decide +kernel) fun K hK => ?_
      | refine W_drw mixed (by decide +kernel) fun K hK => ?_
      | (refine Zb ?_ ?_ <;> intro hb <;> first | (simp (disch := omega) only [go_sem] at hb; done) | (simp (disch := omega) only [go_sem] at hb; try omega) | try omega)
      | (refine Zl ?_; intro bn hnil; (try simp (disch := omega) only [go_sem] at hnil); dsimp only [putT, List.set_cons_succ, List.set_cons_zero])
    exact Zr

theorem same_step {α : Type} {a b : List α} {i : Nat} {x y : α} (hx : a[i]? = some x) (hy : b[i]? = some y) (h : x = y) (hn : ∀ k, k < i → a[k]? = b[k]?) : ∀ k, k < i + 1 → a[k]? = b[k]? := by
  intro k hk
  rcases Nat.lt_or_ge k i with h1 | h1
  · exact hn k h1
  · obtain rfl : k = i := by omega
    rw [hx, hy, h]

theorem sameT_ok (a b : List TTicket) (ha : a.length ≤ 4294967296) (hb : b.length ≤ 4294967296) : PCall Try.prog 32 [.sl (rws a) none, .sl (rws b) none] (· = .bool (decide (a = b))) := by
  refine PCall_intro (c := Try.f32.body.getD .skip) Try.func32 rfl (by decide +kernel) Zf (W_start ?_)
  simp only [Try.f32, go_sem]
  by_cases hab : a.length = b.length
  · repeat' first
      | refine Z0 ?_
      | refine Zx ?_
      | (refine Ze ?_; clear hK K)
      | refine W_reg fun K hK => ?_
      | refine W_drwR rfl mixed (by decide +kernel) fun K hK => ?_
      | refine W_drw mixed (by decide +kernel) fun K hK => ?_
      | (refine Zb ?_ ?_ <;> intro hb <;> first | (simp (disch := omega) only [go_sem] at hb; done) | (simp (disch := omega) only [go_sem] at hb; try omega) | try omega)
      | (refine Zl ?_; intro bn hnil; (try simp (disch := omega) only [go_sem] at hnil); dsimp only [putT, List.set_cons_succ, List.set_cons_zero])
    refine W_foldK (fun (i : Nat) => [none, none, none, none, some .junk, some (.int .i64 i), none, none, none, none, none, some .junk, some .junk, some .junk, some .junk, some .junk, some .junk, some .junk, some .junk, some .junk, some .junk, some .junk, some .junk, some .junk, some .junk, some .junk]) (fun i => i ≤ a.length ∧ ∀ k, k < i → a[k]? = b[k]?) (fun i => a.length - i) 0 ⟨by simp, by omega⟩ (by exact weak_mk wkD wkH wkN wkM (by omega)) ?_
    rintro i ⟨hi, hno⟩
    simp only [msk_none, msk_some, msk_nil]
    rcases Nat.lt_or_ge i a.length with h4 | h4
    · obtain ⟨x, hx⟩ := some_of_lt h4
      obtain ⟨y, hy⟩ := some_of_lt (l := b) (i := i) (by omega)
      by_cases hp : x = y
      · subst hp
        have zz1 := rws_get hx
        have zz2 := rws_get hy
        repeat' first
          | refine Z2 ?_
          | refine Zx ?_
          | (refine Ze ?_; clear hK K)
          | refine W_reg fun K hK => ?_
          | refine W_drwR rfl mixed (by decide +kernel) fun K hK => ?_
          | refine W_drw mixed (by decide +kernel) fun K hK => ?_
          | (refine Zb ?_ ?_ <;> intro hb <;> first | (simp (disch := omega) only [go_sem, zz1, zz2] at hb; done) | (simp (disch := omega) only [go_sem, zz1, zz2] at hb; try omega) | try omega)
          | (refine Zl ?_; intro bn hnil; (try simp (disch := omega) only [go_sem, zz1, zz2] at hnil); dsimp only [putT, List.set_cons_succ, List.set_cons_zero])
        exact L_next ⟨i + 1, by omega, ⟨by omega, same_step hx hy rfl hno⟩, (by exact weak_mk wkD wkH wkN wkM (by omega))⟩
      · have e1 : decide (a = b) = false := by
          rw [decide_eq_false_iff_not]
          rintro rfl
          rw [hx] at hy
          injection hy with hy
          exact hp hy
        rw [e1]
        have zz1 := rws_get hx
        have zz2 := rws_get hy
        have zz3 := hp
        repeat' first
          | refine Z3 ?_
          | refine Zx ?_
          | (refine Ze ?_; clear hK K)
          | refine W_reg fun K hK => ?_
          | refine W_drwR rfl mixed (by decide +kernel) fun K hK => ?_
          | refine W_drw mixed (by decide +kernel) fun K hK => ?_
          | (refine Zb ?_ ?_ <;> intro hb <;> first | (simp (disch := omega) only [go_sem, zz1, zz2, zz3] at hb; done) | (simp (disch := omega) only [go_sem, zz1, zz2, zz3] at hb; try omega) | try omega)
          | (refine Zl ?_; intro bn hnil; (try simp (disch := omega) only [go_sem, zz1, zz2, zz3] at hnil); dsimp only [putT, List.set_cons_succ, List.set_cons_zero])
        exact Zr
    · have e1 : decide (a = b) = true := by
        rw [decide_eq_true_eq]
        refine List.ext_getElem? fun k => ?_
        rcases Nat.lt_or_ge k i with h5 | h5
        · exact hno k h5
        · rw [List.getElem?_eq_none (by omega), List.getElem?_eq_none (by omega)]
      rw [e1]
      repeat' first
        | refine Z0 ?_
        | refine Zx ?_
        | (refine Ze ?_; clear hK K)
        | refine W_reg fun K hK => ?_
        | refine W_drwR rfl mixed (by decide +kernel) fun K hK => ?_
        | refine W_drw mixed (by decide +kernel) fun K hK => ?_
        | (refine Zb ?_ ?_ <;> intro hb <;> first | (simp (disch := omega) only [go_sem] at hb; done) | (simp (disch := omega) only [go_sem] at hb; try omega) | try omega)
        | (refine Zl ?_; intro bn hnil; (try simp (disch := omega) only [go_sem] at hnil); dsimp only [putT, List.set_cons_succ, List.set_cons_zero])
      exact Zr
  · have e1 : decide (a = b) = false := by
      rw [decide_eq_false_iff_not]
      rintro rfl
      exact hab rfl
    rw [e1]
    repeat' first
      | refine Z0 ?_
      | refine Zx ?_
      | (refine Ze ?_; clear hK K)
      | refine W_reg fun K hK => ?_
      | refine W_drwR rfl mixed (by decide +kernel) fun K hK => ?_
      | refine W_drw mixed (by decide +kernel) fun K hK => ?_
      | (refine Zb ?_ ?_ <;> intro hb <;> first | (simp (disch := omega) only [go_sem] at hb; done) | (simp (disch := omega) only [go_sem] at hb; try omega) | try omega)
      | (refine Zl ?_; intro bn hnil; (try simp (disch := omega) only [go_sem] at hnil); dsimp only [putT, List.set_cons_succ, List.set_cons_zero])
    exact Zr

theorem same_ok (a b : TLane) (ha : a.wait.length ≤ 4294967296) (hb : b.wait.length ≤ 4294967296) : PCall Try.prog 24 [.agg (Enc.enc a), .agg (Enc.enc b)] (· = .bool (decide (a = b))) := by
  obtain ⟨s, w⟩ := a
  obtain ⟨s2, w2⟩ := b
  simp only [] at ha hb
  have c1 := sameT_ok w w2 ha hb
  have e1 : decide ((⟨s, w⟩ : TLane) = ⟨s2, w2⟩) = (decide (s = s2) && decide (w = w2)) := by simp
  rw [e1]
  refine PCall_intro (c := Try.f24.body.getD .skip) Try.func24 rfl (by decide +kernel) Zf (W_start ?_)
  simp only [Try.f24, go_sem]
  by_cases h : s = s2
  · subst h
    simp only [decide_true, Bool.true_and]
    repeat' first
      | refine Z0 ?_
      | refine Zx ?_
      | refine Zc c1 ?_
      | (refine Ze ?_; clear hK K)
      | refine W_reg fun K hK => ?_
      | refine W_drwR rfl mixed (by decide +kernel) fun K hK => ?_
      | refine W_drw mixed (by decide +kernel) fun K hK => ?_
      | (refine Zb ?_ ?_ <;> intro hb <;> first | (simp (disch := omega) only [go_sem] at hb; done) | (simp (disch := omega) only [go_sem] at hb; try omega) | try omega)
      | (refine Zl ?_; intro bn hnil; (try simp (disch := omega) only [go_sem] at hnil); dsimp only [putT, List.set_cons_succ, List.set_cons_zero])
    exact Zr
  · simp only [h, decide_false, Bool.false_and]
    repeat' first
      | refine Z0 ?_
      | refine Zx ?_
      | refine Zc c1 ?_
      | (refine Ze ?_; clear hK K)
      | refine W_reg fun K hK => ?_
      | refine W_drwR rfl mixed (by decide +kernel) fun K hK => ?_
      | refine W_drw mixed (by decide +kernel) fun K hK => ?_
      | (refine Zb ?_ ?_ <;> intro hb <;> first | (simp (disch := omega) only [go_sem] at hb; done) | (simp (disch := omega) only [go_sem] at hb; try omega) | try omega)
      | (refine Zl ?_; intro bn hnil; (try simp (disch := omega) only [go_sem] at hnil); dsimp only [putT, List.set_cons_succ, List.set_cons_zero])
    exact Zr

theorem rlate_ok (l : TLane) (now : Int) (hl : l.wait.length ≤ 4294967296) : PCall Try.prog 34 [.agg (Enc.enc l), .int .i64 now] (· = .sl (rws (late l now)) none) := by
  refine PCall_intro (c := Try.f34.body.getD .skip) Try.func34 rfl (by decide +kernel) Zf (W_start ?_)
  simp only [Try.f34, go_sem]
  repeat' first
    | refine Z0 ?_
    | refine Zx ?_
    | (refine Ze ?_; clear hK K)
    | refine W_reg fun K hK => ?_
    | refine W_drwR rfl mixed (by decide +kernel) fun K hK => ?_
    | refine W_drw mixed (by decide +kernel) fun K hK => ?_
    | (refine Zb ?_ ?_ <;> intro hb <;> first | (simp (disch := omega) only [go_sem] at hb; done) | (simp (disch := omega) only [go_sem] at hb; try omega) | try omega)
    | (refine Zl ?_; intro bn hnil; (try simp (disch := omega) only [go_sem] at hnil); dsimp only [putT, List.set_cons_succ, List.set_cons_zero])
  (apply W_unbornAt 5 5; (case ht => exact rfl); (case e => exact sT); (case hn => exact nT))
  refine W_foldA (fun id (a : Nat × List TTicket) => [none, none, none, none, none, some (.ref id a.2.length 0 a.2.length false a.2.length), some (.int .i64 a.1), some .junk, some .junk, some .junk, some .junk, some .junk, some .junk, some .junk, some .junk, some .junk, some .junk, some .junk, some .junk, some .junk, some .junk, some .junk, some .junk, some .junk, some .junk, some .junk, some .junk, some .junk, some .junk, some .junk]) (fun a => rws a.2) (fun a => a.1 ≤ l.wait.length ∧ a.2 = (l.wait.take a.1).filter fun t => decide (t.until_ ≤ now)) (fun a => l.wait.length - a.1) (0, []) ⟨by simp, by simp⟩ (by exact weak_mk wkD wkH wkN wkM (by omega)) ?_
  rintro ⟨i, o⟩ ⟨hi, ho⟩
  simp only [] at hi ho
  simp only [msk_none, msk_some, msk_nil]
  have ho2 : o.length ≤ i := by rw [ho]; have := List.length_filter_le (fun t : TTicket => decide (t.until_ ≤ now)) (l.wait.take i); simp at this; omega
  rcases Nat.lt_or_ge i l.wait.length with h4 | h4
  · obtain ⟨x, hx⟩ := some_of_lt h4
    have e1 := filter_take (p := fun t : TTicket => decide (t.until_ ≤ now)) hx
    rw [← ho] at e1
    by_cases hp : x.until_ ≤ now
    · have e2 := rws_snoc o x
      simp only [enc_TTicket] at e2
      have zz1 := rws_get hx
      have zz2 := e2
      repeat' first
        | refine Z2 ?_
        | refine Zx ?_
        | (refine Ze ?_; clear hK K)
        | refine W_reg fun K hK => ?_
        | refine W_drwR rfl mixed (by decide +kernel) fun K hK => ?_
        | refine W_drw mixed (by decide +kernel) fun K hK => ?_
        | (refine Zb ?_ ?_ <;> intro hb <;> first | (simp (disch := omega) only [go_sem, zz1, zz2] at hb; done) | (simp (disch := omega) only [go_sem, zz1, zz2] at hb; try omega) | try omega)
        | (refine Zl ?_; intro bn hnil; (try simp (disch := omega) only [go_sem, zz1, zz2] at hnil); dsimp only [putT, List.set_cons_succ, List.set_cons_zero])
      exact L_next ⟨(i + 1, o ++ [x]), by simp; omega, ⟨by simp; omega, by simp [e1, hp]⟩, (by simp only [List.length_append, List.length_cons, List.length_nil, Nat.zero_add]; exact (by exact weak_mk wkD wkH wkN wkM (by omega)))⟩
    · have zz1 := rws_get hx
      repeat' first
        | refine Z1 ?_
        | refine Zx ?_
        | (refine Ze ?_; clear hK K)
        | refine W_reg fun K hK => ?_
        | refine W_drwR rfl mixed (by decide +kernel) fun K hK => ?_
        | refine W_drw mixed (by decide +kernel) fun K hK => ?_
        | (refine Zb ?_ ?_ <;> intro hb <;> first | (simp (disch := omega) only [go_sem, zz1] at hb; done) | (simp (disch := omega) only [go_sem, zz1] at hb; try omega) | try omega)
        | (refine Zl ?_; intro bn hnil; (try simp (disch := omega) only [go_sem, zz1] at hnil); dsimp only [putT, List.set_cons_succ, List.set_cons_zero])
      exact L_next ⟨(i + 1, o), by simp; omega, ⟨by simp; omega, by simp [e1, hp]⟩, (by exact weak_mk wkD wkH wkN wkM (by omega))⟩
  · obtain rfl : i = l.wait.length := by omega
    rw [List.take_length] at ho
    have e1 : late l now = o := ho.symm
    rw [e1]
    repeat' first
      | refine Z0 ?_
      | refine Zx ?_
      | (refine Ze ?_; clear hK K)
      | refine W_reg fun K hK => ?_
      | refine W_drwR rfl mixed (by decide +kernel) fun K hK => ?_
      | refine W_drw mixed (by decide +kernel) fun K hK => ?_
      | (refine Zb ?_ ?_ <;> intro hb <;> first | (simp (disch := omega) only [go_sem] at hb; done) | (simp (disch := omega) only [go_sem] at hb; try omega) | try omega)
      | (refine Zl ?_; intro bn hnil; (try simp (disch := omega) only [go_sem] at hnil); dsimp only [putT, List.set_cons_succ, List.set_cons_zero])
    exact Zr

theorem rseats_ok (l : TLane) (hl : l.wait.length ≤ 4294967296) : PCall Try.prog 35 [.agg (Enc.enc l)] (· = .int .i64 (seats l)) := by
  refine PCall_intro (c := Try.f35.body.getD .skip) Try.func35 rfl (by decide +kernel) Zf (W_start ?_)
  simp only [Try.f35, go_sem]
  repeat' first
    | refine Z0 ?_
    | refine Zx ?_
    | (refine Ze ?_; clear hK K)
    | refine W_reg fun K hK => ?_
    | refine W_drwR rfl mixed (by decide +kernel) fun K hK => ?_
    | refine W_drw mixed (by decide +kernel) fun K hK => ?_
    | (refine Zb ?_ ?_ <;> intro hb <;> first | (simp (disch := omega) only [go_sem] at hb; done) | (simp (disch := omega) only [go_sem] at hb; try omega) | try omega)
    | (refine Zl ?_; intro bn hnil; (try simp (disch := omega) only [go_sem] at hnil); dsimp only [putT, List.set_cons_succ, List.set_cons_zero])
  refine W_foldK (fun (a : Nat × Int) => [none, none, none, some (.int .i64 a.2), some (.int .i64 a.1), some .junk, some .junk, some .junk, some .junk, some .junk, some .junk, some .junk, some .junk, some .junk, some .junk, some .junk, some .junk, some .junk, some .junk, some .junk, some .junk]) (fun a => a.1 ≤ l.wait.length ∧ a.2 = ((l.wait.take a.1).map fun t => wid t.width).sum) (fun a => l.wait.length - a.1) (0, 0) ⟨by simp, by simp⟩ (by exact weak_mk wkD wkH wkN wkM (by omega)) ?_
  rintro ⟨i, n⟩ ⟨hi, hn⟩
  simp only [] at hi hn
  simp only [msk_none, msk_some, msk_nil]
  have hb := seats_take l.wait i
  rw [← hn] at hb
  rcases Nat.lt_or_ge i l.wait.length with h4 | h4
  · obtain ⟨x, hx⟩ := some_of_lt h4
    have e1 := sum_take (f := fun t : TTicket => wid t.width) hx
    rw [← hn] at e1
    have c1 := rwid_ok x.width
    have b1 := wid_le x.width
    have zz1 := rws_get hx
    repeat' first
      | refine Z1 ?_
      | refine Zx ?_
      | refine Zc c1 ?_
      | (refine Ze ?_; clear hK K)
      | refine W_reg fun K hK => ?_
      | refine W_drwR rfl mixed (by decide +kernel) fun K hK => ?_
      | refine W_drw mixed (by decide +kernel) fun K hK => ?_
      | (refine Zb ?_ ?_ <;> intro hb <;> first | (simp (disch := omega) only [go_sem, zz1] at hb; done) | (simp (disch := omega) only [go_sem, zz1] at hb; try omega) | try omega)
      | (refine Zl ?_; intro bn hnil; (try simp (disch := omega) only [go_sem, zz1] at hnil); dsimp only [putT, List.set_cons_succ, List.set_cons_zero])
    exact L_next ⟨(i + 1, n + wid x.width), by simp; omega, ⟨by simp; omega, e1.symm⟩, (by exact weak_mk wkD wkH wkN wkM (by omega))⟩
  · obtain rfl : i = l.wait.length := by omega
    rw [List.take_length] at hn
    have e1 : seats l = n := hn.symm
    rw [e1]
    repeat' first
      | refine Z0 ?_
      | refine Zx ?_
      | (refine Ze ?_; clear hK K)
      | refine W_reg fun K hK => ?_
      | refine W_drwR rfl mixed (by decide +kernel) fun K hK => ?_
      | refine W_drw mixed (by decide +kernel) fun K hK => ?_
      | (refine Zb ?_ ?_ <;> intro hb <;> first | (simp (disch := omega) only [go_sem] at hb; done) | (simp (disch := omega) only [go_sem] at hb; try omega) | try omega)
      | (refine Zl ?_; intro bn hnil; (try simp (disch := omega) only [go_sem] at hnil); dsimp only [putT, List.set_cons_succ, List.set_cons_zero])
    exact Zr

theorem awake_ok : PCall Try.prog 19 [] (· = .bool true) := by
  have c1 := join_ok ⟨5, []⟩ 9 ⟨1, 2, 0, 0, 0⟩ (by simp)
  rw [show join ⟨5, []⟩ 9 ⟨1, 2, 0, 0, 0⟩ = ⟨9, [⟨1, 2, 0, 0, 0⟩]⟩ by rfl] at c1
  have c2 := fin_ok ⟨9, [⟨1, 2, 0, 0, 0⟩]⟩ 10 (by simp) (by simp)
  rw [show fin ⟨9, [⟨1, 2, 0, 0, 0⟩]⟩ 10 = (29, true) by rfl] at c2
  refine PCall_intro (c := Try.f19.body.getD .skip) Try.func19 rfl (by decide +kernel) Zf (W_start ?_)
  simp only [Try.f19, go_sem]
  repeat' first
    | refine Z0 ?_
    | refine Zx ?_
    | refine Zu c1 ?_
    | refine Zc c2 ?_
    | (refine Ze ?_; clear hK K)
    | refine W_reg fun K hK => ?_
    | refine W_drwR rfl mixed (by decide +kernel) fun K hK => ?_
    | refine W_drw mixed (by decide +kernel) fun K hK => ?_
    | (refine Zb ?_ ?_ <;> intro hb <;> first | (simp (disch := omega) only [go_sem] at hb; done) | (simp (disch := omega) only [go_sem] at hb; try omega) | try omega)
    | (refine Zl ?_; intro bn hnil; (try simp (disch := omega) only [go_sem] at hnil); dsimp only [putT, List.set_cons_succ, List.set_cons_zero])
  exact Zr

end Go.Proofs.Ytdgjelfeclgolaa
