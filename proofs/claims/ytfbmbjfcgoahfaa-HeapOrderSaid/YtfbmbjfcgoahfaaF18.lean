/-
  The reference's Push, Remove, Change; the heap of nil: List; walked.
-/
import Derived.Test.YtfbmbjfcgoahfaaF17
namespace Go.Proofs.Ytfbmbjfcgoahfaa
open Go Go.AM
set_option maxHeartbeats 8000000
set_option maxRecDepth 8000
set_option linter.unusedSimpArgs false
set_option linter.unusedVariables false

theorem take_while {p : TItem → Bool} : ∀ {l : List TItem} {i : Nat}, i ≤ l.length → (∀ k y, k < i → l[k]? = some y → p y = true) → (∀ y, l[i]? = some y → p y = false) → l.takeWhile p = l.take i ∧ l.dropWhile p = l.drop i
  | [], i, h1, _, _ => by simp
  | a :: l, 0, _, _, h3 => by
    have := h3 a rfl
    rw [List.takeWhile_cons, List.dropWhile_cons, this]
    simp
  | a :: l, i + 1, h1, h2, h3 => by
    have h4 := h2 0 a (by omega) rfl
    rw [List.takeWhile_cons, List.dropWhile_cons, h4]
    obtain ⟨e1, e2⟩ := take_while (l := l) (i := i) (by simpa using h1) (fun k y hk hy => h2 (k + 1) y (by omega) (by simpa using hy)) (fun y hy => h3 y (by simpa using hy))
    simp [e1, e2]

abbrev listV (r : List TItem × Int) : AVal := .tuple [.sl (rws r.1) none, .int .i64 r.2]

theorem rpush_ok (l : List TItem) (x : TItem) (hl : l.length ≤ 5000) : PCall Try.prog 34 [.sl (rws l) none, .agg (Enc.enc x)] (· = listV (pushL l x)) := by
  have c1 := rfind_ok l x.iD hl
  have hi := idx_ge (fun d : TItem => decide (d.iD = x.iD)) l
  generalize idx (fun d : TItem => decide (d.iD = x.iD)) l = I at *
  unfold pushL
  by_cases h1 : hasL l x.iD = true
  · rw [if_pos h1]
    have hI : I ≥ 0 := by
      unfold hasL at h1
      rw [h1] at hi
      exact of_decide_eq_true hi
    refine PCall_intro (c := Try.f34.body.getD .skip) Try.func34 rfl (by decide +kernel) Zf (W_start ?_)
    simp only [Try.f34, go_sem]
    repeat' first
      | refine Z0 ?_
      | refine Zx ?_
      | refine Zc c1 ?_
      | (refine Ze ?_; clear hK K)
      | refine W_reg fun K hK => ?_
      | refine W_drwR rfl mixed (by decide +kernel) fun K hK => ?_
      | refine W_drw mixed (by decide +kernel) fun K hK => ?_
      | (refine Zb ?_ ?_ <;> intro hb <;> first | (simp (disch := omega) only [go_sem] at hb; done) | (simp (disch := omega) only [go_sem] at hb; try omega) | try omega)
      | (refine Zl ?_; intro bn hnil; (try simp (disch := omega) only [go_sem] at hnil); dsimp only [putT, List.set_cons_succ, List.set_cons_zero])
    all_goals exact Zr
  · rw [if_neg h1]
    have hI : ¬ I ≥ 0 := by
      have h2 : hasL l x.iD = false := by simpa using h1
      unfold hasL at h2
      rw [h2] at hi
      exact of_decide_eq_false hi
    by_cases h2 : l.length ≥ 4096
    · rw [if_pos h2]
      refine PCall_intro (c := Try.f34.body.getD .skip) Try.func34 rfl (by decide +kernel) Zf (W_start ?_)
      simp only [Try.f34, go_sem]
      repeat' first
        | refine Z0 ?_
        | refine Zx ?_
        | refine Zc c1 ?_
        | (refine Ze ?_; clear hK K)
        | refine W_reg fun K hK => ?_
        | refine W_drwR rfl mixed (by decide +kernel) fun K hK => ?_
        | refine W_drw mixed (by decide +kernel) fun K hK => ?_
        | (refine Zb ?_ ?_ <;> intro hb <;> first | (simp (disch := omega) only [go_sem] at hb; done) | (simp (disch := omega) only [go_sem] at hb; try omega) | try omega)
        | (refine Zl ?_; intro bn hnil; (try simp (disch := omega) only [go_sem] at hnil); dsimp only [putT, List.set_cons_succ, List.set_cons_zero])
      all_goals exact Zr
    · rw [if_neg h2]
      refine PCall_intro (c := Try.f34.body.getD .skip) Try.func34 rfl (by decide +kernel) Zf (W_start ?_)
      simp only [Try.f34, go_sem]
      repeat' first
        | refine Z0 ?_
        | refine Zx ?_
        | refine Zc c1 ?_
        | (refine Ze ?_; clear hK K)
        | refine W_reg fun K hK => ?_
        | refine W_drwR rfl mixed (by decide +kernel) fun K hK => ?_
        | refine W_drw mixed (by decide +kernel) fun K hK => ?_
        | (refine Zb ?_ ?_ <;> intro hb <;> first | (simp (disch := omega) only [go_sem] at hb; done) | (simp (disch := omega) only [go_sem] at hb; try omega) | try omega)
        | (refine Zl ?_; intro bn hnil; (try simp (disch := omega) only [go_sem] at hnil); dsimp only [putT, List.set_cons_succ, List.set_cons_zero])
      refine W_foldK (fun (i : Nat) => [none, none, none, none, none, none, some (.int .i64 i), none, none, none, none, none, none, none, none, none, none, none, some .junk, some .junk, some .junk, some .junk, some .junk, some .junk, some .junk, some .junk, some .junk, some .junk, some .junk, some .junk, some .junk, some .junk]) (fun i => i ≤ l.length ∧ ∀ k y, k < i → l[k]? = some y → goesB y x = true) (fun i => l.length - i) 0 ⟨by omega, by omega⟩ (by exact weak_mk wkD wkH wkN wkM (by omega)) ?_
      rintro i ⟨k1, k2⟩
      simp only [msk_none, msk_some, msk_nil]
      by_cases hg : ∃ y, l[i]? = some y ∧ goesB y x = true
      · obtain ⟨y, hy, hg⟩ := hg
        have hlt : i < l.length := (List.getElem?_eq_some_iff.1 hy).1
        have c2 := rfirst_ok y x
        rw [hg] at c2
        have zz1 := rws_get hy
        repeat' first
          | refine Z1 ?_
          | refine Zx ?_
          | refine Zc c2 ?_
          | (refine Ze ?_; clear hK K)
          | refine W_reg fun K hK => ?_
          | refine W_drwR rfl mixed (by decide +kernel) fun K hK => ?_
          | refine W_drw mixed (by decide +kernel) fun K hK => ?_
          | (refine Zb ?_ ?_ <;> intro hb <;> first | (simp (disch := omega) only [go_sem, zz1] at hb; done) | (simp (disch := omega) only [go_sem, zz1] at hb; try omega) | try omega)
          | (refine Zl ?_; intro bn hnil; (try simp (disch := omega) only [go_sem, zz1] at hnil); dsimp only [putT, List.set_cons_succ, List.set_cons_zero])
        exact L_next ⟨i + 1, by omega, ⟨by omega, fun k z hk hz => by
          by_cases e : k = i
          · subst e
            rw [hy] at hz
            injection hz with hz
            exact hz ▸ hg
          · exact k2 k z (by omega) hz⟩, (by exact weak_mk wkD wkH wkN wkM (by omega))⟩
      · have hst : ∀ y, l[i]? = some y → goesB y x = false := fun y hy => by
          cases h : goesB y x with
          | false => rfl
          | true => exact absurd ⟨y, hy, h⟩ hg
        obtain ⟨t1, t2⟩ := take_while (p := (goesB · x)) k1 k2 hst
        have r0 : insL l x = l.take i ++ [x] ++ l.drop i := by unfold insL; rw [t1, t2]; simp
        rw [r0]
        have r1 := rws_snoc (l.take i) x
        have r2 : rws (l.take i ++ [x]) ++ rws (l.drop i) = rws (l.take i ++ [x] ++ l.drop i) := rws_append _ _
        have r3 : (l.take i).length = i := by rw [List.length_take]; omega
        have r4 : (l.take i ++ [x]).length = i + 1 := by simp; omega
        have r5 : (l.drop i).length = l.length - i := List.length_drop
        have r6 : (l.take i ++ [x] ++ l.drop i).length = l.length + 1 := by simp; omega
        have r7 : (rws l).take i = rws (l.take i) := rws_take _ _
        have r8 : ((rws l).drop i).take (l.length - i) = rws (l.drop i) := by rw [rws_drop, rws_take, List.take_of_length_le (by simp)]
        simp only [enc_TItem] at r1
        rcases Nat.lt_or_ge i l.length with h3 | h3
        · obtain ⟨y, hy⟩ := some_of_lt h3
          have c2 := rfirst_ok y x
          rw [hst y hy] at c2
          have zz1 := rws_get hy
          have zz2 := r1
          have zz3 := r2
          have zz4 := r3
          have zz5 := r4
          have zz6 := r5
          have zz7 := r6
          have zz8 := r7
          have zz9 := r8
          repeat' first
            | refine Z9 ?_
            | refine Zx ?_
            | refine Zc c2 ?_
            | (refine Ze ?_; clear hK K)
            | refine W_reg fun K hK => ?_
            | refine W_drwR rfl mixed (by decide +kernel) fun K hK => ?_
            | refine W_drw mixed (by decide +kernel) fun K hK => ?_
            | (refine Zb ?_ ?_ <;> intro hb <;> first | (simp (disch := omega) only [go_sem, zz1, zz2, zz3, zz4, zz5, zz6, zz7, zz8, zz9] at hb; done) | (simp (disch := omega) only [go_sem, zz1, zz2, zz3, zz4, zz5, zz6, zz7, zz8, zz9] at hb; try omega) | try omega)
            | (refine Zl ?_; intro bn hnil; (try simp (disch := omega) only [go_sem, zz1, zz2, zz3, zz4, zz5, zz6, zz7, zz8, zz9] at hnil); dsimp only [putT, List.set_cons_succ, List.set_cons_zero])
          all_goals exact Zr
        · have zz1 := r1
          have zz2 := r2
          have zz3 := r3
          have zz4 := r4
          have zz5 := r5
          have zz6 := r6
          have zz7 := r7
          have zz8 := r8
          repeat' first
            | refine Z8 ?_
            | refine Zx ?_
            | (refine Ze ?_; clear hK K)
            | refine W_reg fun K hK => ?_
            | refine W_drwR rfl mixed (by decide +kernel) fun K hK => ?_
            | refine W_drw mixed (by decide +kernel) fun K hK => ?_
            | (refine Zb ?_ ?_ <;> intro hb <;> first | (simp (disch := omega) only [go_sem, zz1, zz2, zz3, zz4, zz5, zz6, zz7, zz8] at hb; done) | (simp (disch := omega) only [go_sem, zz1, zz2, zz3, zz4, zz5, zz6, zz7, zz8] at hb; try omega) | try omega)
            | (refine Zl ?_; intro bn hnil; (try simp (disch := omega) only [go_sem, zz1, zz2, zz3, zz4, zz5, zz6, zz7, zz8] at hnil); dsimp only [putT, List.set_cons_succ, List.set_cons_zero])
          all_goals exact Zr

theorem erase_cut {l : List TItem} (hn : (l.map (·.iD)).Nodup) {id : Int} : ∀ {b : Nat} {x : TItem}, l[b]? = some x → x.iD = id → l.eraseIdx b = cutL l id := by
  induction l with
  | nil => intro b x h; cases h
  | cons a l ih =>
    intro b x h e
    rw [List.map_cons, List.nodup_cons] at hn
    cases b with
    | zero =>
      simp only [List.getElem?_cons_zero, Option.some.injEq] at h
      subst h e
      rw [cut_head (by rw [List.map_cons, List.nodup_cons]; exact hn)]
      rfl
    | succ b =>
      rw [List.getElem?_cons_succ] at h
      have ha : a.iD ≠ id := fun e2 => hn.1 (List.mem_map.2 ⟨x, List.mem_of_getElem? h, by rw [e, e2]⟩)
      rw [List.eraseIdx_cons_succ, ih hn.2 h e]
      simp [cutL, ha]

theorem rremove_ok (l : List TItem) (id : Int) (hl : l.length ≤ 5000) (hn : (l.map (·.iD)).Nodup) : PCall Try.prog 35 [.sl (rws l) none, .int .i64 id] (· = listV (removeL l id)) := by
  have c1 := rfind_ok l id hl
  unfold removeL
  rcases idx_cases (fun d : TItem => decide (d.iD = id)) l with ⟨b, x, h1, h2, h3, h4, h5, _⟩ | ⟨h1, h2, _⟩
  · rw [h1] at c1
    have hh : hasL l id = true := h5
    rw [if_pos hh, ← erase_cut hn h3 (by simpa using h4), List.eraseIdx_eq_take_drop_succ]
    have r2 : rws (l.take b) ++ rws (l.drop (b + 1)) = rws (l.take b ++ l.drop (b + 1)) := rws_append _ _
    have r3 : (l.take b).length = b := by rw [List.length_take]; omega
    have r5 : (l.drop (b + 1)).length = l.length - (b + 1) := List.length_drop
    have r6 : (l.take b ++ l.drop (b + 1)).length = l.length - 1 := by simp; omega
    have r7 : (rws l).take b = rws (l.take b) := rws_take _ _
    have r8 : ((rws l).drop (b + 1)).take (l.length - (b + 1)) = rws (l.drop (b + 1)) := by rw [rws_drop, rws_take, List.take_of_length_le (by simp)]
    have u1 : (b : Int) + 1 = ((b + 1 : Nat) : Int) := by omega
    refine PCall_intro (c := Try.f35.body.getD .skip) Try.func35 rfl (by decide +kernel) Zf (W_start ?_)
    simp only [Try.f35, go_sem]
    have zz1 := r2
    have zz2 := r3
    have zz3 := r5
    have zz4 := r6
    have zz5 := r7
    have zz6 := r8
    have zz7 := u1
    repeat' first
      | refine Z7 ?_
      | refine Zx ?_
      | refine Zc c1 ?_
      | (refine Ze ?_; clear hK K)
      | refine W_reg fun K hK => ?_
      | refine W_drwR rfl mixed (by decide +kernel) fun K hK => ?_
      | refine W_drw mixed (by decide +kernel) fun K hK => ?_
      | (refine Zb ?_ ?_ <;> intro hb <;> first | (simp (disch := omega) only [go_sem, zz1, zz2, zz3, zz4, zz5, zz6, zz7] at hb; done) | (simp (disch := omega) only [go_sem, zz1, zz2, zz3, zz4, zz5, zz6, zz7] at hb; try omega) | try omega)
      | (refine Zl ?_; intro bn hnil; (try simp (disch := omega) only [go_sem, zz1, zz2, zz3, zz4, zz5, zz6, zz7] at hnil); dsimp only [putT, List.set_cons_succ, List.set_cons_zero])
    all_goals exact Zr
  · rw [h1] at c1
    have hh : hasL l id = false := h2
    rw [if_neg (by rw [hh]; decide)]
    refine PCall_intro (c := Try.f35.body.getD .skip) Try.func35 rfl (by decide +kernel) Zf (W_start ?_)
    simp only [Try.f35, go_sem]
    repeat' first
      | refine Z0 ?_
      | refine Zx ?_
      | refine Zc c1 ?_
      | (refine Ze ?_; clear hK K)
      | refine W_reg fun K hK => ?_
      | refine W_drwR rfl mixed (by decide +kernel) fun K hK => ?_
      | refine W_drw mixed (by decide +kernel) fun K hK => ?_
      | (refine Zb ?_ ?_ <;> intro hb <;> first | (simp (disch := omega) only [go_sem] at hb; done) | (simp (disch := omega) only [go_sem] at hb; try omega) | try omega)
      | (refine Zl ?_; intro bn hnil; (try simp (disch := omega) only [go_sem] at hnil); dsimp only [putT, List.set_cons_succ, List.set_cons_zero])
    all_goals exact Zr

theorem rchange_ok (l : List TItem) (x : TItem) (hl : l.length ≤ 5000) (hn : (l.map (·.iD)).Nodup) : PCall Try.prog 36 [.sl (rws l) none, .agg (Enc.enc x)] (· = listV (changeL l x)) := by
  have c1 := rremove_ok l x.iD hl hn
  unfold removeL at c1
  unfold changeL
  by_cases hh : hasL l x.iD = true
  · rw [if_pos hh] at c1 ⊢
    have c2 := rpush_ok (cutL l x.iD) x (Nat.le_trans (List.length_filter_le _ _) hl)
    refine PCall_intro (c := Try.f36.body.getD .skip) Try.func36 rfl (by decide +kernel) Zf (W_start ?_)
    simp only [Try.f36, go_sem]
    repeat' first
      | refine Z0 ?_
      | refine Zx ?_
      | refine Zc c1 ?_
      | refine Zc c2 ?_
      | (refine Ze ?_; clear hK K)
      | refine W_reg fun K hK => ?_
      | refine W_drwR rfl mixed (by decide +kernel) fun K hK => ?_
      | refine W_drw mixed (by decide +kernel) fun K hK => ?_
      | (refine Zb ?_ ?_ <;> intro hb <;> first | (simp (disch := omega) only [go_sem] at hb; done) | (simp (disch := omega) only [go_sem] at hb; try omega) | try omega)
      | (refine Zl ?_; intro bn hnil; (try simp (disch := omega) only [go_sem] at hnil); dsimp only [putT, List.set_cons_succ, List.set_cons_zero])
    all_goals exact Zr
  · rw [if_neg hh] at c1 ⊢
    refine PCall_intro (c := Try.f36.body.getD .skip) Try.func36 rfl (by decide +kernel) Zf (W_start ?_)
    simp only [Try.f36, go_sem]
    repeat' first
      | refine Z0 ?_
      | refine Zx ?_
      | refine Zc c1 ?_
      | (refine Ze ?_; clear hK K)
      | refine W_reg fun K hK => ?_
      | refine W_drwR rfl mixed (by decide +kernel) fun K hK => ?_
      | refine W_drw mixed (by decide +kernel) fun K hK => ?_
      | (refine Zb ?_ ?_ <;> intro hb <;> first | (simp (disch := omega) only [go_sem] at hb; done) | (simp (disch := omega) only [go_sem] at hb; try omega) | try omega)
      | (refine Zl ?_; intro bn hnil; (try simp (disch := omega) only [go_sem] at hnil); dsimp only [putT, List.set_cons_succ, List.set_cons_zero])
    all_goals exact Zr

theorem nil_list : PCall Try.prog 40 [.nilp] (· = .sl [] none) := by
  refine PCall_intro (c := Try.f40.body.getD .skip) Try.func40 rfl (by decide +kernel) Zf (W_start ?_)
  simp only [Try.f40, go_sem]
  repeat' first
    | refine Z0 ?_
    | refine Zx ?_
    | (refine Ze ?_; clear hK K)
    | refine W_reg fun K hK => ?_
    | refine W_drwR rfl mixed (by decide +kernel) fun K hK => ?_
    | refine W_drw mixed (by decide +kernel) fun K hK => ?_
    | (refine Zb ?_ ?_ <;> intro hb <;> first | (simp (disch := omega) only [go_sem] at hb; done) | (simp (disch := omega) only [go_sem] at hb; try omega) | try omega)
    | (refine Zl ?_; intro bn hnil; (try simp (disch := omega) only [go_sem] at hnil); dsimp only [putT, List.set_cons_succ, List.set_cons_zero])
  exact retQ_frz (r := .sl [] none) (by simp only [go_sem]; exact rfl) rfl (.sl _ _ (by simp)) (.sl [] [] (some 0) rfl (fun i r r' h => by simp at h) (fun i r r' j x x' h => by simp at h))

end Go.Proofs.Ytfbmbjfcgoahfaa
