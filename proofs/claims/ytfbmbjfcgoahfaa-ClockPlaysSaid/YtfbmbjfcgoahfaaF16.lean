/-
  ClockPlays; walked.
-/
import Derived.Test.YtfbmbjfcgoahfaaF15
namespace Go.Proofs.Ytfbmbjfcgoahfaa
open Go Go.AM
set_option maxHeartbeats 8000000
set_option maxRecDepth 8000
set_option linter.unusedSimpArgs false
set_option linter.unusedVariables false

theorem robs_mk (D a : Nat) (now : Int) (L : List TDue) (n : Nat) (h : L.length = n) : robs D a now L = [(a, .arr 2 (rws L)), (D, .arr 2 [rrow a now n])] := by subst h; rfl

/-- Such calls that make a new list. -/
theorem FNCall.rclk {g : FuncId} {args0 args : List AVal} {r0 : AVal} {r : Nat → AVal} {n n' : Int} {L L' : List TDue} {k : Nat} (hc : HCall Try.prog g args0 (robs 0 1 n L) 2 fun q h _ => q = r0 ∧ h = [(k, .arr 2 (rws L')), (1, .arr 2 (rws L)), (0, .arr 2 [rrow k n' L'.length])]) (hk : 2 ≤ k) {D a : Nat} (hd : D ≠ a)
    (ha : ∀ x, x ∈ args0 → LfA (fun i => i ∈ [1, 0]) x) (hr : LfA (fun i => i ∈ [k, 1, 0]) r0) (ea : args0.map (renA (num2 D a)) = args) (er : ∀ j, renA (fun i => if i = k then j else num2 D a i) r0 = r j) :
    FNCall Try.prog g args (robs D a n L) r (fun j => [(a, .arr 2 (rws L)), (D, .arr 2 [rrow j n' L'.length])]) (fun _ => .arr 2 (rws L')) := by
  have k0 : ¬ 0 = k := by omega
  have k1 : ¬ 1 = k := by omega
  refine FNCall.of (f := num2 D a) (k := k) (L0' := [(1, .arr 2 (rws L)), (0, .arr 2 [rrow k n' L'.length])]) hc rfl (by simp; omega) (fun e he => ?_) (num2_inj hd) (robs_lf n L) (fun e he => ?_) hr ha ea ?_ (fun j => ?_) er (fun j => ?_)
  · simp only [List.mem_cons, List.not_mem_nil, or_false] at he
    rcases he with rfl | rfl <;> simp
  · simp only [List.mem_cons, List.not_mem_nil, or_false] at he
    rcases he with rfl | rfl | rfl
    · simp [lfO_rws]
    · simp [lfO_rws]
    · simp [lfO_row, lf_ref, lf_int]
  · simp only [robs, rrow, renH, renO, ren_rws, ren0, num2, List.map_cons, List.map_nil]
  · simp only [robs, rrow, renH, renO, ren_rws, ren0, num2, List.map_cons, List.map_nil, if_neg k0, if_neg k1, if_true]
  · simp only [renO, ren_rws]

section
variable {n : Int} {L : List TDue} {l : List TItem}

theorem rset_V (r : RV L l) (hs : l.length ≤ 4096) (id at_ : Int) : ∃ L', RV L' (setL n l id at_).1 ∧ ∀ {D a : Nat}, D ≠ a → FCall Try.prog 30 [.ptr D 1 0 0, .int .i64 id, .int .i64 at_] (robs D a n L) (.int .i64 (setL n l id at_).2) (robs D a n L') := by
  have h0 := rset0 n L id at_ (by rw [r.len]; exact hs)
  have hh := r.has id
  have hl := r.len
  unfold setL pushL
  by_cases h1 : at_ ≤ n ∨ at_ > 1099511627776
  · rw [if_pos h1]
    rw [if_pos h1, if_pos (.inl h1)] at h0
    exact ⟨L, r, fun hd => FCall.rclk h0 hd (by simp [lfA_leaf, lf_ptr, lf_int]) (.leaf _ (.fz _ (.int _ _))) rfl rfl⟩
  · rw [if_neg h1]
    rw [if_neg h1] at h0
    by_cases h2 : hasL l id = true
    · simp only [if_pos h2]
      rw [if_pos (hh.trans h2), if_pos (.inr (.inl (hh.trans h2)))] at h0
      exact ⟨L, r, fun hd => FCall.rclk h0 hd (by simp [lfA_leaf, lf_ptr, lf_int]) (.leaf _ (.fz _ (.int _ _))) rfl rfl⟩
    · simp only [if_neg h2]
      have h2' : ¬ hasR L id = true := by rw [hh]; exact h2
      rw [if_neg h2'] at h0
      by_cases h3 : l.length ≥ 4096
      · simp only [if_pos h3]
        rw [if_pos (by omega), if_pos (.inr (.inr (by omega)))] at h0
        exact ⟨L, r, fun hd => FCall.rclk h0 hd (by simp [lfA_leaf, lf_ptr, lf_int]) (.leaf _ (.fz _ (.int _ _))) rfl rfl⟩
      · simp only [if_neg h3]
        rw [if_neg (by omega), if_neg (fun h => h.elim h1 fun h => h.elim h2' (by omega))] at h0
        exact ⟨_, r.set (by simpa using h2'), fun hd => FCall.rclk h0 hd (by simp [lfA_leaf, lf_ptr, lf_int]) (.leaf _ (.fz _ (.int _ _))) rfl rfl⟩

theorem rcancel_no (r : RV L l) (hs : l.length ≤ 4096) {id : Int} (h : hasL l id = false) {D a : Nat} (hd : D ≠ a) : FCall Try.prog 31 [.ptr D 1 0 0, .int .i64 id] (robs D a n L) (.int .i64 6) (robs D a n L) :=
  FCall.rclk (rcancel0 n L id (by rw [r.len]; omega) (by rw [r.has]; exact h)) hd (by simp [lfA_leaf, lf_ptr, lf_int]) (.leaf _ (.fz _ (.int _ _))) rfl rfl

theorem rcancel_yes (r : RV L l) (hs : l.length ≤ 4096) {id : Int} (h : hasL l id = true) : ∃ L', RV L' (cutL l id) ∧ ∀ {D a : Nat}, D ≠ a → FNCall Try.prog 31 [.ptr D 1 0 0, .int .i64 id] (robs D a n L) (fun _ => .int .i64 0) (fun j => [(a, .arr 2 (rws L)), (D, .arr 2 [rrow j n L'.length])]) (fun _ => .arr 2 (rws L')) := by
  have hh := r.has id
  rw [h] at hh
  rcases idx_cases (fun d : TDue => decide (d.iD = id)) L with ⟨b, x, h1, h2, h3, h4, _⟩ | ⟨h1, h2, _⟩
  · have e : x.iD = id := by simpa using h4
    have hel : (L.eraseIdx b).length = L.length - 1 := by rw [List.length_eraseIdx, if_pos h2]
    have c := rcancel1 n L id (by rw [r.len]; omega) b h2 h1
    rw [← hel] at c
    exact ⟨L.eraseIdx b, e ▸ r.erase h3, fun hd => FNCall.rclk c (by omega) hd (by simp [lfA_leaf, lf_ptr, lf_int]) (.leaf _ (.fz _ (.int _ _))) rfl (fun _ => rfl)⟩
  · unfold hasR at hh
    rw [h2] at hh
    cases hh

theorem rnext_V (r : RV L l) (hs : l.length ≤ 4096) {D a : Nat} (hd : D ≠ a) : FCall Try.prog 33 [.ptr D 1 0 0] (robs D a n L) (dueV (nextL l)) (robs D a n L) := by
  have hl := r.len
  refine FCall.rclk (rnext0 n L (by omega) (nextL l) ?_) hd (by simp [lfA_leaf, lf_ptr, lf_int]) (lfA_tup _ _ (by simp [lf_bool, lf_aggE])) rfl rfl
  cases l with
  | nil => exact .inl ⟨r.none, rfl⟩
  | cons x l =>
    obtain ⟨b, h1, h2, h3⟩ := r.first
    exact .inr ⟨b, h1, h3, rfl⟩

theorem radv_V (r : RV L l) (hs : l.length ≤ 4096) (hn : (l.map (·.iD)).Nodup) (to : Int) : ∃ L', RV L' (advL n l to).2.1 ∧ ((∀ {D a : Nat}, D ≠ a → FCall Try.prog 32 [.ptr D 1 0 0, .int .i64 to] (robs D a n L) (advV (advL n l to).2.2) (robs D a (advL n l to).1 L')) ∨
    (∀ {D a : Nat}, D ≠ a → FNCall Try.prog 32 [.ptr D 1 0 0, .int .i64 to] (robs D a n L) (fun _ => advV (advL n l to).2.2) (fun j => [(a, .arr 2 (rws L)), (D, .arr 2 [rrow j (advL n l to).1 L'.length])]) (fun _ => .arr 2 (rws L')))) := by
  have hl := r.len
  by_cases h1 : to < n ∨ to > 1099511627776
  · rw [advL_bad l h1]
    refine ⟨L, r, .inl fun hd => ?_⟩
    exact (FCall.rclk (radv_bad n L to h1) hd (by simp [lfA_leaf, lf_ptr, lf_int]) (lfA_tup _ _ (by simp [lf_nil, lf_int])) rfl rfl).res (.tupleC (.cons (.slR .nil) (.cons (.refl _) .nil)))
  · rw [advL_ok l h1]
    obtain ⟨q1, q2⟩ := RV.adv to l L L.length r (Nat.le_refl _) hn
    by_cases h2 : isDue L to
    · refine ⟨_, q1, .inr fun hd => ?_⟩
      have c := radv_some n L to (by omega) h1 h2
      rw [q2] at c
      exact FNCall.rclk c (by omega) hd (by simp [lfA_leaf, lf_ptr, lf_int]) (lfA_tup _ _ (by simp [lf_rws, lf_int])) rfl (fun _ => rfl)
    · have e : advR L.length L to = (L, []) := by
        cases hf : L.length with
        | zero => rfl
        | succ f => rw [advR]; unfold isDue at h2; rw [if_neg h2]
      rw [e] at q1 q2
      refine ⟨L, q1, .inl fun hd => ?_⟩
      have c := radv_none n L to (by omega) h1 h2
      simp only [] at q2 ⊢
      rw [← q2]
      exact (FCall.rclk c hd (by simp [lfA_leaf, lf_ptr, lf_int]) (lfA_tup _ _ (by simp [lf_nil, lf_int])) rfl rfl).res (.tupleC (.cons (.slR .nil) (.cons (.refl _) .nil)))
end

theorem clockPlays_ok (ops : List TOp5) (hl : ops.length ≤ maxLen) (hw : ∀ d, d ∈ ops → d.wf) : PCall Try.prog 8 [.sl (rws ops) none] (· = .bool true) := by
  have c0 := awake5_ok
  unfold maxLen at hl
  refine PCall_intro (c := Try.f8.body.getD .skip) Try.func8 rfl (by decide +kernel) Zf (W_start ?_)
  simp only [Try.f8, go_sem]
  repeat' first
    | refine Z0 ?_
    | refine Zx ?_
    | refine Zc c0 ?_
    | refine Zbn cnew_N ?_
    | (refine Ze ?_; clear hK K)
    | refine W_reg fun K hK => ?_
    | refine W_drwR rfl mixed (by decide +kernel) fun K hK => ?_
    | refine W_drw mixed (by decide +kernel) fun K hK => ?_
    | (refine Zb ?_ ?_ <;> intro hb <;> first | (simp (disch := omega) only [go_sem] at hb; done) | (simp (disch := omega) only [go_sem] at hb; try omega) | try omega)
    | (refine Zl ?_; intro bn hnil; (try simp (disch := omega) only [go_sem] at hnil); dsimp only [putT, List.set_cons_succ, List.set_cons_zero])
  refine W_unbornO 14 2 2 [[.int .i64 0, .sl [] (some 0)]] [[.int .i64 0, .ref 16 0 0 0 false 0]] rfl ⟨⟨.inl rfl, .inr (.inr ⟨rfl, rfl⟩), trivial⟩, trivial⟩ (NewL.all _) rfl rfl ?_
  refine W_foldMC (fun (a : Nat × Int × HS × List TItem × List TDue) => [none, none, some .junk, none, none, some (.int .i64 a.1), some .junk, some .junk, some .junk, some .junk, some .junk, some .junk, some .junk, some .junk, some .junk, none, none, none, some .junk, some .junk, some .junk, some .junk, some .junk, some .junk, some .junk, some .junk, some .junk, some .junk, some .junk, some .junk, some .junk, some .junk, some .junk, some .junk, some .junk, some .junk, some .junk, some .junk, some .junk, some .junk, some .junk, some .junk, some .junk, some .junk, some .junk, some .junk, some .junk, some .junk, some .junk, some .junk, some .junk, some .junk, some .junk, some .junk, some .junk, some .junk, some .junk, some .junk, some .junk, some .junk, some .junk, some .junk, some .junk, some .junk, some .junk, some .junk, some .junk, some .junk, some .junk, some .junk, some .junk, some .junk, some .junk, some .junk, some .junk, some .junk, some .junk, some .junk, some .junk, some .junk, some .junk, some .junk, some .junk, some .junk, some .junk, some .junk, some .junk, some .junk, some .junk, some .junk, some .junk, some .junk, some .junk, some .junk, some .junk, some .junk, some .junk, some .junk, some .junk, some .junk, some .junk, some .junk, some .junk, some .junk, some .junk, some .junk, some .junk, some .junk, some .junk, some .junk, some .junk, some .junk, some .junk, some .junk]) (fun a => robs 14 16 a.2.1 a.2.2.2.2 ++ cobs 11 7 9 5 a.2.1 a.2.2.1)
    (fun a => a.1 ≤ ops.length ∧ a.1 ≤ 300 ∧ CView a.2.1 a.2.2.1 a.2.2.2.1 ∧ RV a.2.2.2.2 a.2.2.2.1) (fun a => 300 - a.1) (0, 0, newS, [], []) ⟨by omega, by omega, CView.new, RV.nil⟩ (by exact Can.ofWeak (by exact weak_mk wkD wkH wkN wkM (by omega))) ?_
  rintro ⟨i, n, s, l, L⟩ ⟨h1, h2, cc, r⟩
  simp only [] at h1 h2 cc r
  have hs := cc.v.small
  have hlo := cc.lo
  simp only [msk_none, msk_some, msk_nil]
  by_cases hi : i < ops.length ∧ i < 300
  · obtain ⟨o, ho⟩ := some_of_lt hi.1
    have how := hw o (List.mem_of_getElem? ho)
    have hwu := wrap_u_ok o.do_
    obtain ⟨q, hq⟩ : ∃ q, (IntKind.u64.wrap o.do_).tmod 3 = q := ⟨_, rfl⟩
    have hq2 : q = 0 ∨ q = 1 ∨ q = 2 := by
      rw [← hq, Int.tmod_eq_emod_of_nonneg hwu.1]; omega
    rcases hq2 with rfl | rfl | rfl
    · obtain ⟨s', c', q1⟩ := set_V cc o.iD o.at_ how.2.1
      obtain ⟨L', r', q2⟩ := rset_V (n := n) r hs o.iD o.at_
      have q1 := q1 (C := 11) (H := 7) (a := 9) (m := 5) (by decide)
      have q2 := q2 (D := 14) (a := 16) (by decide)
      have hs' := c'.v.small
      have hl' := r'.len
      have q3 := next_V c' (C := 11) (H := 7) (a := 9) (m := 5) (by decide)
      have q4 := rnext_V (n := n) r' hs' (D := 14) (a := 16) (by decide)
      have q5 := now_V (n := n) (s := s') (C := 11) (H := 7) (a := 9) (m := 5) (by decide)
      have q6 := left_V c' (C := 11) (H := 7) (a := 9) (m := 5) (by decide)
      generalize setL n l o.iD o.at_ = SL at *
      obtain ⟨l', e'⟩ := SL
      simp only [] at c' r' q1 q2 q3 q4 q6 hs' hl'
      generalize nextL l' = NL at *
      obtain ⟨y, yb⟩ := NL
      have zz1 := rws_get ho
      have zz2 := hq
      repeat' first
        | refine Z2 ?_
        | refine Zx ?_
        | refine Zfc q1 ?_
        | refine Zfc q2 ?_
        | refine Zfc q3 ?_
        | refine Zfc q4 ?_
        | refine Zfc q5 ?_
        | refine Zfc q6 ?_
        | (refine Ze ?_; clear hK K)
        | refine W_reg fun K hK => ?_
        | refine W_drwF mixed (by decide +kernel) fun K hK => ?_
        | (refine Zb ?_ ?_ <;> intro hb <;> first | (simp (disch := omega) only [go_sem, zz1, zz2] at hb; done) | (simp (disch := omega) only [go_sem, zz1, zz2] at hb; try omega) | try omega)
        | (refine Zl ?_; intro bn hnil; (try simp (disch := omega) only [go_sem, zz1, zz2] at hnil); dsimp only [putT, List.set_cons_succ, List.set_cons_zero])
      all_goals exact L_next ⟨(i + 1, n, s', l', L'), by simp; omega, ⟨by simp; omega, by simp; omega, c', r'⟩, (by exact Can.ofWeak (by exact weak_mk wkD wkH wkN wkM (by omega)))⟩
    · obtain ⟨s', c', q1⟩ := cancel_V cc o.iD
      have q1 := q1 (C := 11) (H := 7) (a := 9) (m := 5) (by decide)
      unfold removeL at c' q1
      cases hh : hasL l o.iD with
      | false =>
        have q2 := rcancel_no (n := n) r hs hh (D := 14) (a := 16) (by decide)
        rw [if_neg (by rw [hh]; simp)] at c' q1
        have r' := r
        have hs' := c'.v.small
        have hl' := r'.len
        have q3 := next_V c' (C := 11) (H := 7) (a := 9) (m := 5) (by decide)
        have q4 := rnext_V (n := n) r' hs' (D := 14) (a := 16) (by decide)
        have q5 := now_V (n := n) (s := s') (C := 11) (H := 7) (a := 9) (m := 5) (by decide)
        have q6 := left_V c' (C := 11) (H := 7) (a := 9) (m := 5) (by decide)
        generalize nextL l = NL at *
        obtain ⟨y, yb⟩ := NL
        have zz1 := rws_get ho
        have zz2 := hq
        repeat' first
          | refine Z2 ?_
          | refine Zx ?_
          | refine Zfc q1 ?_
          | refine Zfc q2 ?_
          | refine Zfc q3 ?_
          | refine Zfc q4 ?_
          | refine Zfc q5 ?_
          | refine Zfc q6 ?_
          | (refine Ze ?_; clear hK K)
          | refine W_reg fun K hK => ?_
          | refine W_drwF mixed (by decide +kernel) fun K hK => ?_
          | (refine Zb ?_ ?_ <;> intro hb <;> first | (simp (disch := omega) only [go_sem, zz1, zz2] at hb; done) | (simp (disch := omega) only [go_sem, zz1, zz2] at hb; try omega) | try omega)
          | (refine Zl ?_; intro bn hnil; (try simp (disch := omega) only [go_sem, zz1, zz2] at hnil); dsimp only [putT, List.set_cons_succ, List.set_cons_zero])
        all_goals exact L_next ⟨(i + 1, n, s', l, L), by simp; omega, ⟨by simp; omega, by simp; omega, c', r'⟩, (by exact Can.ofWeak (by exact weak_mk wkD wkH wkN wkM (by omega)))⟩
      | true =>
        obtain ⟨L', r', q2⟩ := rcancel_yes (n := n) r hs hh
        have q2 := q2 (D := 14) (a := 16) (by decide)
        rw [if_pos hh] at c' q1
        have hs' := c'.v.small
        have hl' := r'.len
        have q3 := next_V c' (C := 11) (H := 7) (a := 9) (m := 5) (by decide)
        have q4 := rnext_V (n := n) r' hs' (D := 14) (a := 45) (by decide)
        have q5 := now_V (n := n) (s := s') (C := 11) (H := 7) (a := 9) (m := 5) (by decide)
        have q6 := left_V c' (C := 11) (H := 7) (a := 9) (m := 5) (by decide)
        generalize nextL (cutL l o.iD) = NL at *
        obtain ⟨y, yb⟩ := NL
        have zz1 := rws_get ho
        have zz2 := hq
        repeat' first
          | refine Z2 ?_
          | refine Zx ?_
          | refine Zfc q1 ?_
          | refine Zfn q2 ?_
          | refine Zfc q3 ?_
          | refine Zfc q4 ?_
          | refine Zfc q5 ?_
          | refine Zfc q6 ?_
          | (refine Ze ?_; clear hK K)
          | refine W_reg fun K hK => ?_
          | refine W_drwF mixed (by decide +kernel) fun K hK => ?_
          | (refine Zb ?_ ?_ <;> intro hb <;> first | (simp (disch := omega) only [go_sem, zz1, zz2] at hb; done) | (simp (disch := omega) only [go_sem, zz1, zz2] at hb; try omega) | try omega)
          | (refine Zl ?_; intro bn hnil; (try simp (disch := omega) only [go_sem, zz1, zz2] at hnil); dsimp only [putT, List.set_cons_succ, List.set_cons_zero])
        all_goals
          exact L_next ⟨(i + 1, n, s', cutL l o.iD, L'), by simp; omega, ⟨by simp; omega, by simp; omega, c', r'⟩,
            Can.renW (hp := robs 14 45 n L' ++ cobs 11 7 9 5 n s') (nx := 200) (fun i => if i = 45 then 16 else i) (by exact weak_mk wkD wkH wkN wkM (by omega)) (by
              intro i j hi hj e
              simp only [List.map_cons, List.map_nil, List.cons_append, List.nil_append, List.mem_cons, List.not_mem_nil, or_false] at hi hj
              rcases hi with rfl | rfl | rfl | rfl | rfl | rfl <;> rcases hj with rfl | rfl | rfl | rfl | rfl | rfl <;> first | rfl | (simp at e)) lfS (by
              intro e he
              simp only [List.cons_append, List.nil_append, List.mem_cons, List.not_mem_nil, or_false] at he
              rcases he with rfl | rfl | rfl | rfl | rfl | rfl
              · simp [lfO_rws]
              · simp [lfO_row, lf_ref, lf_int]
              · simp [lfO_row, lf_ptr, lf_int]
              · simp [lfO_mpe]
              · simp [lfO_rws]
              · simp [lfO_row, lf_ref, lf_mapv]) (by simp) (by simp) (by omega) reS (by simp only [List.cons_append, List.nil_append, renH, renO, ren_rws, ren0, rrow, hrow, List.map_cons, List.map_nil]; rfl)⟩
    · obtain ⟨s', c', q1⟩ := adv_V cc o.at_
      have q1 := q1 (C := 11) (H := 7) (a := 9) (m := 5) (by decide)
      obtain ⟨L', r', q2⟩ := radv_V (n := n) r hs cc.v.ids o.at_
      have hal : (advL n l o.at_).2.2.1.length ≤ 4096 := by
        unfold advL
        split
        · simp
        · have := tk_len (dueB o.at_) l
          simp only [List.length_map]
          omega
      generalize advL n l o.at_ = A at *
      obtain ⟨n', l', out, e'⟩ := A
      simp only [] at c' r' q1 q2 hal
      have q7 := same5_ok out out (by omega) (by omega)
      rw [show decide (out = out) = true by simp] at q7
      rcases q2 with q2 | q2
      · have q2 := q2 (D := 14) (a := 16) (by decide)
        have hs' := c'.v.small
        have hl' := r'.len
        have q3 := next_V c' (C := 11) (H := 7) (a := 9) (m := 5) (by decide)
        have q4 := rnext_V (n := n') r' hs' (D := 14) (a := 16) (by decide)
        have q5 := now_V (n := n') (s := s') (C := 11) (H := 7) (a := 9) (m := 5) (by decide)
        have q6 := left_V c' (C := 11) (H := 7) (a := 9) (m := 5) (by decide)
        generalize nextL l' = NL at *
        obtain ⟨y, yb⟩ := NL
        have zz1 := rws_get ho
        have zz2 := hq
        repeat' first
          | refine Z2 ?_
          | refine Zx ?_
          | refine Zc q7 ?_
          | refine Zfc q1 ?_
          | refine Zfc q2 ?_
          | refine Zfc q3 ?_
          | refine Zfc q4 ?_
          | refine Zfc q5 ?_
          | refine Zfc q6 ?_
          | (refine Ze ?_; clear hK K)
          | refine W_reg fun K hK => ?_
          | refine W_drwF mixed (by decide +kernel) fun K hK => ?_
          | (refine Zb ?_ ?_ <;> intro hb <;> first | (simp (disch := omega) only [go_sem, zz1, zz2] at hb; done) | (simp (disch := omega) only [go_sem, zz1, zz2] at hb; try omega) | try omega)
          | (refine Zl ?_; intro bn hnil; (try simp (disch := omega) only [go_sem, zz1, zz2] at hnil); dsimp only [putT, List.set_cons_succ, List.set_cons_zero])
        all_goals exact L_next ⟨(i + 1, n', s', l', L'), by simp; omega, ⟨by simp; omega, by simp; omega, c', r'⟩, (by exact Can.ofWeak (by exact weak_mk wkD wkH wkN wkM (by omega)))⟩
      · have q2 := q2 (D := 14) (a := 16) (by decide)
        have hs' := c'.v.small
        have hl' := r'.len
        have q3 := next_V c' (C := 11) (H := 7) (a := 9) (m := 5) (by decide)
        have q4 := rnext_V (n := n') r' hs' (D := 14) (a := 50) (by decide)
        have q5 := now_V (n := n') (s := s') (C := 11) (H := 7) (a := 9) (m := 5) (by decide)
        have q6 := left_V c' (C := 11) (H := 7) (a := 9) (m := 5) (by decide)
        generalize nextL l' = NL at *
        obtain ⟨y, yb⟩ := NL
        have zz1 := rws_get ho
        have zz2 := hq
        repeat' first
          | refine Z2 ?_
          | refine Zx ?_
          | refine Zc q7 ?_
          | refine Zfc q1 ?_
          | refine Zfn q2 ?_
          | refine Zfc q3 ?_
          | refine Zfc q4 ?_
          | refine Zfc q5 ?_
          | refine Zfc q6 ?_
          | (refine Ze ?_; clear hK K)
          | refine W_reg fun K hK => ?_
          | refine W_drwF mixed (by decide +kernel) fun K hK => ?_
          | (refine Zb ?_ ?_ <;> intro hb <;> first | (simp (disch := omega) only [go_sem, zz1, zz2] at hb; done) | (simp (disch := omega) only [go_sem, zz1, zz2] at hb; try omega) | try omega)
          | (refine Zl ?_; intro bn hnil; (try simp (disch := omega) only [go_sem, zz1, zz2] at hnil); dsimp only [putT, List.set_cons_succ, List.set_cons_zero])
        all_goals
          exact L_next ⟨(i + 1, n', s', l', L'), by simp; omega, ⟨by simp; omega, by simp; omega, c', r'⟩,
            Can.renW (hp := robs 14 50 n' L' ++ cobs 11 7 9 5 n' s') (nx := 200) (fun i => if i = 50 then 16 else i) (by exact weak_mk wkD wkH wkN wkM (by omega)) (by
              intro i j hi hj e
              simp only [List.map_cons, List.map_nil, List.cons_append, List.nil_append, List.mem_cons, List.not_mem_nil, or_false] at hi hj
              rcases hi with rfl | rfl | rfl | rfl | rfl | rfl <;> rcases hj with rfl | rfl | rfl | rfl | rfl | rfl <;> first | rfl | (simp at e)) lfS (by
              intro e he
              simp only [List.cons_append, List.nil_append, List.mem_cons, List.not_mem_nil, or_false] at he
              rcases he with rfl | rfl | rfl | rfl | rfl | rfl
              · simp [lfO_rws]
              · simp [lfO_row, lf_ref, lf_int]
              · simp [lfO_row, lf_ptr, lf_int]
              · simp [lfO_mpe]
              · simp [lfO_rws]
              · simp [lfO_row, lf_ref, lf_mapv]) (by simp) (by simp) (by omega) reS (by simp only [List.cons_append, List.nil_append, renH, renO, ren_rws, ren0, rrow, hrow, List.map_cons, List.map_nil]; rfl)⟩
  · repeat' first
      | refine Z0 ?_
      | refine Zx ?_
      | (refine Ze ?_; clear hK K)
      | refine W_reg fun K hK => ?_
      | refine W_drwR rfl mixed (by decide +kernel) fun K hK => ?_
      | refine W_drw mixed (by decide +kernel) fun K hK => ?_
      | (refine Zb ?_ ?_ <;> intro hb <;> first | (simp (disch := omega) only [go_sem] at hb; done) | (simp (disch := omega) only [go_sem] at hb; try omega) | try omega)
      | (refine Zl ?_; intro bn hnil; (try simp (disch := omega) only [go_sem] at hnil); dsimp only [putT, List.set_cons_succ, List.set_cons_zero])
    all_goals exact Zr

end Go.Proofs.Ytfbmbjfcgoahfaa
