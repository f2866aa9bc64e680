/-
  ClockOrder; walked.
-/
import Derived.Test.YtfbmbjfcgoahfaaF10
namespace Go.Proofs.Ytfbmbjfcgoahfaa
open Go Go.AM
set_option maxHeartbeats 8000000
set_option maxRecDepth 8000
set_option linter.unusedSimpArgs false
set_option linter.unusedVariables false

theorem md {n x : Nat} (h : x < 2 * n) : x % n = if x < n then x else x - n := by
  split
  · rename_i h2; exact Nat.mod_eq_of_lt h2
  · rename_i h2
    rw [Nat.mod_eq_sub_mod (by omega), Nat.mod_eq_of_lt (by omega)]

theorem rot_ne {n t i k : Nat} (ht : t < n) (hk : k < i) (hi : i < n) : (k + t) % n ≠ (i + t) % n := by
  rw [md (by omega), md (by omega)]
  split <;> split <;> omega

theorem rot_all {n t j : Nat} (ht : t < n) (hj : j < n) : ∃ k, k < n ∧ (k + t) % n = j := by
  by_cases h : t ≤ j
  · exact ⟨j - t, by omega, by rw [md (by omega), if_pos (by omega)]; omega⟩
  · exact ⟨j + n - t, by omega, by rw [md (by omega), if_neg (by omega)]; omega⟩

/-- Those who were set, and may be. -/
def SetOf (P : TDue → Prop) (l : List TItem) : Prop := ∀ y, y ∈ l ↔ ∃ d, P d ∧ okDue d ∧ y = itemOf d

theorem set_mem {P : TDue → Prop} {l : List TItem} (hm : SetOf P l) {d : TDue} (hnew : ∀ d', P d' → d'.iD ≠ d.iD) (hlen : l.length < 4096) : SetOf (fun e => P e ∨ e = d) (setL 0 l d.iD d.at_).1 ∧ (setL 0 l d.iD d.at_).1.length ≤ l.length + 1 := by
  have hno : hasL l d.iD = false := by
    rw [hasL_f]
    intro y hy
    obtain ⟨e, he, _, rfl⟩ := (hm y).1 hy
    exact hnew e he
  unfold setL
  by_cases h : d.at_ ≤ 0 ∨ d.at_ > 1099511627776
  · rw [if_pos h]
    refine ⟨fun y => (hm y).trans ⟨fun ⟨e, q1, q2, q3⟩ => ⟨e, .inl q1, q2, q3⟩, ?_⟩, Nat.le_succ _⟩
    rintro ⟨e, q1 | rfl, q2, q3⟩
    · exact ⟨e, q1, q2, q3⟩
    · unfold okDue at q2; omega
  · rw [if_neg h]
    unfold pushL
    rw [if_neg (by rw [hno]; simp), if_neg (by omega)]
    refine ⟨fun y => ?_, by rw [len_insL]; exact Nat.le_refl _⟩
    rw [mem_insL, hm y]
    constructor
    · rintro (rfl | ⟨e, q1, q2, q3⟩)
      · exact ⟨d, .inr rfl, by unfold okDue; omega, rfl⟩
      · exact ⟨e, .inl q1, q2, q3⟩
    · rintro ⟨e, q1 | rfl, q2, q3⟩
      · exact .inr ⟨e, q1, q2, q3⟩
      · exact .inl q3

theorem clockOrder_ok (l : List TDue) (turn to : Int) (hl : l.length ≤ maxLen) (hw : ∀ d, d ∈ l → d.wf) (ht : -9223372036854775808 ≤ turn ∧ turn ≤ 9223372036854775807) (hto : -9223372036854775808 ≤ to ∧ to ≤ 9223372036854775807) :
    PCall Try.prog 6 [.sl (rws l) none, .int .i64 turn, .int .i64 to] (· = .bool true) := by
  have c0 := awake5_ok
  unfold maxLen at hl
  obtain ⟨L, hLd⟩ : ∃ L, l.take 60 = L := ⟨_, rfl⟩
  have r0 : List.take (min (l.length : Int) 60).toNat (rws l) = rws L := by
    rw [rws_take, ← hLd]
    congr 1
    rcases Nat.lt_or_ge l.length 60 with h | h
    · rw [show (min (l.length : Int) 60).toNat = l.length by omega, List.take_of_length_le (Nat.le_refl _), List.take_of_length_le (by omega)]
    · rw [show (min (l.length : Int) 60).toNat = 60 by omega]
  have hLw : ∀ d, d ∈ L → d.wf := fun d hd => hw d (List.mem_of_mem_take (hLd ▸ hd))
  have hLn : L.length ≤ 60 := by rw [← hLd, List.length_take]; omega
  refine PCall_intro (c := Try.f6.body.getD .skip) Try.func6 rfl (by decide +kernel) Zf (W_start ?_)
  simp only [Try.f6, go_sem]
  have zz1 := r0
  repeat' first
    | refine Z1 ?_
    | refine Zx ?_
    | refine Zc c0 ?_
    | (refine Ze ?_; clear hK K)
    | refine W_reg fun K hK => ?_
    | refine W_drwR rfl mixed (by decide +kernel) fun K hK => ?_
    | refine W_drw mixed (by decide +kernel) fun K hK => ?_
    | (refine Zb ?_ ?_ <;> intro hb <;> first | (simp (disch := omega) only [go_sem, zz1] at hb; done) | (simp (disch := omega) only [go_sem, zz1] at hb; try omega) | try omega)
    | (refine Zl ?_; intro bn hnil; (try simp (disch := omega) only [go_sem, zz1] at hnil); dsimp only [putT, List.set_cons_succ, List.set_cons_zero])
  refine W_foldK (fun (i : Nat) => [none, none, none, none, none, none, some .junk, none, some (.int .i64 i), some .junk, none, none, none, none, none, none, none, none, none, none, none, none, none, none, none, none, none, some .junk, some .junk, some .junk, some .junk, some .junk, some .junk, some .junk, some .junk, some .junk, some .junk, some .junk, some .junk, some .junk, some .junk, some .junk, some .junk, some .junk, some .junk, some .junk, some .junk, some .junk]) (fun i => i ≤ L.length ∧ ∀ a b x y, b < a → a < i → L[a]? = some x → L[b]? = some y → ¬ x.iD = y.iD) (fun i => L.length - i) 0 ⟨by omega, by omega⟩ (by exact weak_mk wkD wkH wkN wkM (by omega)) ?_
  rintro i ⟨h1, h2⟩
  simp only [msk_none, msk_some, msk_nil]
  by_cases hi : i < L.length
  · obtain ⟨x, hx⟩ := some_of_lt hi
    repeat' first
      | refine Z0 ?_
      | refine Zx ?_
      | (refine Ze ?_; clear hK K)
      | refine W_reg fun K hK => ?_
      | refine W_drwR rfl mixed (by decide +kernel) fun K hK => ?_
      | refine W_drw mixed (by decide +kernel) fun K hK => ?_
      | (refine Zb ?_ ?_ <;> intro hb <;> first | (simp (disch := omega) only [go_sem] at hb; done) | (simp (disch := omega) only [go_sem] at hb; try omega) | try omega)
      | (refine Zl ?_; intro bn hnil; (try simp (disch := omega) only [go_sem] at hnil); dsimp only [putT, List.set_cons_succ, List.set_cons_zero])
    refine W_foldK (fun (k : Nat) => [none, none, none, none, none, none, some .junk, none, none, some (.int .i64 k), none, none, none, none, none, none, none, none, none, none, none, none, none, none, none, none, none, none, none, none, none, none, some .junk, some .junk, some .junk, some .junk, some .junk, some .junk, some .junk, some .junk, some .junk, some .junk, some .junk, some .junk, some .junk, some .junk, some .junk, some .junk]) (fun k => k ≤ i ∧ ∀ b y, b < k → L[b]? = some y → ¬ x.iD = y.iD) (fun k => i - k) 0 ⟨by omega, by omega⟩ (by exact weak_mk wkD wkH wkN wkM (by omega)) ?_
    rintro k ⟨k1, k2⟩
    simp only [msk_none, msk_some, msk_nil]
    by_cases hk : k < i
    · obtain ⟨y, hy⟩ := some_of_lt (show k < L.length by omega)
      by_cases he : x.iD = y.iD
      · have zz1 := rws_get hx
        have zz2 := rws_get hy
        have zz3 := he
        repeat' first
          | refine Z3 ?_
          | refine Zx ?_
          | (refine Ze ?_; clear hK K)
          | refine W_reg fun K hK => ?_
          | refine W_drwR rfl mixed (by decide +kernel) fun K hK => ?_
          | refine W_drw mixed (by decide +kernel) fun K hK => ?_
          | (refine Zb ?_ ?_ <;> intro hb <;> first | (simp (disch := omega) only [go_sem, zz1, zz2, zz3] at hb; done) | (simp (disch := omega) only [go_sem, zz1, zz2, zz3] at hb; try omega) | try omega)
          | (refine Zl ?_; intro bn hnil; (try simp (disch := omega) only [go_sem, zz1, zz2, zz3] at hnil); dsimp only [putT, List.set_cons_succ, List.set_cons_zero])
        exact Zr
      · have zz1 := rws_get hx
        have zz2 := rws_get hy
        have zz3 := he
        repeat' first
          | refine Z3 ?_
          | refine Zx ?_
          | (refine Ze ?_; clear hK K)
          | refine W_reg fun K hK => ?_
          | refine W_drwR rfl mixed (by decide +kernel) fun K hK => ?_
          | refine W_drw mixed (by decide +kernel) fun K hK => ?_
          | (refine Zb ?_ ?_ <;> intro hb <;> first | (simp (disch := omega) only [go_sem, zz1, zz2, zz3] at hb; done) | (simp (disch := omega) only [go_sem, zz1, zz2, zz3] at hb; try omega) | try omega)
          | (refine Zl ?_; intro bn hnil; (try simp (disch := omega) only [go_sem, zz1, zz2, zz3] at hnil); dsimp only [putT, List.set_cons_succ, List.set_cons_zero])
        exact L_next ⟨k + 1, by omega, ⟨by omega, fun b z hb hz => by
          by_cases e : b = k
          · subst e; rw [hy] at hz; injection hz with hz; subst hz; exact he
          · exact k2 b z (by omega) hz⟩, (by exact weak_mk wkD wkH wkN wkM (by omega))⟩
    · repeat' first
        | refine Z0 ?_
        | refine Zx ?_
        | (refine Ze ?_; clear hK K)
        | refine W_reg fun K hK => ?_
        | refine W_drwR rfl mixed (by decide +kernel) fun K hK => ?_
        | refine W_drw mixed (by decide +kernel) fun K hK => ?_
        | (refine Zb ?_ ?_ <;> intro hb <;> first | (simp (disch := omega) only [go_sem] at hb; done) | (simp (disch := omega) only [go_sem] at hb; try omega) | try omega)
        | (refine Zl ?_; intro bn hnil; (try simp (disch := omega) only [go_sem] at hnil); dsimp only [putT, List.set_cons_succ, List.set_cons_zero])
      exact L_next ⟨i + 1, by omega, ⟨by omega, fun a b u v hab ha hu hv => by
        by_cases e : a = i
        · subst e; rw [hx] at hu; injection hu with hu; subst hu; exact k2 b v (by omega) hv
        · exact h2 a b u v hab (by omega) hu hv⟩, (by exact weak_mk wkD wkH wkN wkM (by omega))⟩
  · obtain rfl : i = L.length := by omega
    repeat' first
      | refine Z0 ?_
      | refine Zx ?_
      | refine Zbn cnew_N ?_
      | (refine Ze ?_; clear hK K)
      | refine W_reg fun K hK => ?_
      | refine W_drwR rfl mixed (by decide +kernel) fun K hK => ?_
      | refine W_drw mixed (by decide +kernel) fun K hK => ?_
      | (refine Zb ?_ ?_ <;> intro hb <;> first | (simp (disch := omega) only [go_sem] at hb; done) | (simp (disch := omega) only [go_sem] at hb; try omega) | try omega)
      | (refine Zl ?_; intro bn hnil; (try simp (disch := omega) only [go_sem] at hnil); dsimp only [putT, List.set_cons_succ, List.set_cons_zero])
    refine W_foldM (fun (a : Nat × HS × List TItem × HS × List TItem) => [none, none, none, none, none, none, none, none, none, none, none, none, some (.int .i64 a.1), some .junk, none, none, none, none, none, none, none, none, none, none, none, none, none, none, none, none, none, none, none, none, none, none, none, none, none, none, none, none, none, none, none, none, none, none, none, none, some .junk, some .junk, some .junk, some .junk, some .junk, some .junk, some .junk, some .junk, some .junk, some .junk, some .junk, some .junk, some .junk, some .junk, some .junk, some .junk, some .junk, some .junk, some .junk, some .junk, some .junk, some .junk, some .junk, some .junk, some .junk, some .junk, some .junk, some .junk, some .junk, some .junk, some .junk, some .junk, some .junk, some .junk, some .junk, some .junk]) (fun a => cobs 34 30 32 28 0 a.2.2.2.1 ++ cobs 24 20 22 18 0 a.2.1)
      (fun a => a.1 ≤ L.length ∧ CView 0 a.2.1 a.2.2.1 ∧ CView 0 a.2.2.2.1 a.2.2.2.2 ∧ SetOf (fun d => ∃ k, k < a.1 ∧ L[k]? = some d) a.2.2.1 ∧ SetOf (fun d => ∃ k, k < a.1 ∧ L[(k + ((IntKind.u64.wrap turn).tmod L.length).toNat) % L.length]? = some d) a.2.2.2.2 ∧ a.2.2.1.length ≤ a.1 ∧ a.2.2.2.2.length ≤ a.1)
      (fun a => L.length - a.1) (0, newS, [], newS, []) ⟨by omega, CView.new, CView.new, fun y => ⟨fun h => (nomatch h), fun ⟨d, ⟨k, hk, _⟩, _⟩ => absurd hk (Nat.not_lt_zero k)⟩, fun y => ⟨fun h => (nomatch h), fun ⟨d, ⟨k, hk, _⟩, _⟩ => absurd hk (Nat.not_lt_zero k)⟩, by simp, by simp⟩ (by exact weak_mk wkD wkH wkN wkM (by omega)) ?_
    rintro ⟨i, s, lc, s2, ld⟩ ⟨k1, cc, cd, m1, m2, n1, n2⟩
    simp only [] at k1 cc cd m1 m2 n1 n2
    simp only [msk_none, msk_some, msk_nil]
    by_cases hi : i < L.length
    · obtain ⟨t, ht0⟩ : ∃ t : Nat, ((IntKind.u64.wrap turn).tmod L.length).toNat = t := ⟨_, rfl⟩
      have hwu := wrap_u_ok turn
      have htn : t < L.length := by
        rw [← ht0, Int.tmod_eq_emod_of_nonneg hwu.1]
        have := Int.emod_lt_of_pos (IntKind.u64.wrap turn) (show (0 : Int) < L.length by omega)
        have := Int.emod_nonneg (IntKind.u64.wrap turn) (show (L.length : Int) ≠ 0 by omega)
        omega
      have ht1 : (IntKind.u64.wrap turn).tmod L.length = (t : Int) := by
        rw [← ht0, Int.tmod_eq_emod_of_nonneg hwu.1]
        have := Int.emod_nonneg (IntKind.u64.wrap turn) (show (L.length : Int) ≠ 0 by omega)
        omega
      rw [ht0] at m2
      have u1 : ((i : Int) + (t : Int)).tmod (L.length : Int) = (((i + t) % L.length : Nat) : Int) := by
        rw [Int.tmod_eq_emod_of_nonneg (by omega)]
        simp
      have hm : (i + t) % L.length < L.length := Nat.mod_lt _ (by omega)
      obtain ⟨x, hx⟩ := some_of_lt hi
      obtain ⟨y, hy⟩ := some_of_lt hm
      have hxw := hLw x (List.mem_of_getElem? hx)
      have hyw := hLw y (List.mem_of_getElem? hy)
      obtain ⟨s', c', q1⟩ := set_V cc x.iD x.at_ hxw.1
      obtain ⟨s2', c2', q2⟩ := set_V cd y.iD y.at_ hyw.1
      have q1 := q1 (C := 24) (H := 20) (a := 22) (m := 18) (by decide)
      have q2 := q2 (C := 34) (H := 30) (a := 32) (m := 28) (by decide)
      obtain ⟨p1, p2⟩ := set_mem m1 (d := x) (fun d' ⟨k, hk, hd'⟩ e => h2 i k x d' hk hi hx hd' e.symm) (by omega)
      obtain ⟨p3, p4⟩ := set_mem m2 (d := y) (fun d' ⟨k, hk, hd'⟩ e => by
        have hne := rot_ne htn hk hi
        have hk2 : (k + t) % L.length < L.length := Nat.mod_lt _ (by omega)
        rcases Nat.lt_or_gt_of_ne hne with h | h
        · exact h2 _ _ y d' h hm hy hd' e.symm
        · exact h2 _ _ d' y h hk2 hd' hy e) (by omega)
      obtain ⟨j, hj⟩ : ∃ j, (i + t) % L.length = j := ⟨_, rfl⟩
      rw [hj] at u1 hy hm
      have zz1 := rws_get hx
      have zz2 := rws_get hy
      have zz3 := ht1
      have zz4 := u1
      repeat' first
        | refine Z4 ?_
        | refine Zx ?_
        | refine Zfc q1 ?_
        | refine Zfc q2 ?_
        | (refine Ze ?_; clear hK K)
        | refine W_reg fun K hK => ?_
        | refine W_drwF mixed (by decide +kernel) fun K hK => ?_
        | (refine Zb ?_ ?_ <;> intro hb <;> first | (simp (disch := omega) only [go_sem, zz1, zz2, zz3, zz4] at hb; done) | (simp (disch := omega) only [go_sem, zz1, zz2, zz3, zz4] at hb; try omega) | try omega)
        | (refine Zl ?_; intro bn hnil; (try simp (disch := omega) only [go_sem, zz1, zz2, zz3, zz4] at hnil); dsimp only [putT, List.set_cons_succ, List.set_cons_zero])
      exact L_next ⟨(i + 1, s', (setL 0 lc x.iD x.at_).1, s2', (setL 0 ld y.iD y.at_).1), by simp; omega, ⟨by simp; omega, c', c2', fun z => (p1 z).trans ⟨fun ⟨d, hd, q⟩ => ⟨d, by
          rcases hd with ⟨k, hk, hd⟩ | rfl
          · exact ⟨k, by simp; omega, hd⟩
          · exact ⟨i, by simp, hx⟩, q⟩, fun ⟨d, ⟨k, hk, hd⟩, q⟩ => ⟨d, by
          by_cases e : k = i
          · subst e; rw [hx] at hd; injection hd with hd; exact .inr hd.symm
          · exact .inl ⟨k, by simp only [] at hk; omega, hd⟩, q⟩⟩, fun z => by
          rw [ht0]
          exact (p3 z).trans ⟨fun ⟨d, hd, q⟩ => ⟨d, by
            rcases hd with ⟨k, hk, hd⟩ | rfl
            · exact ⟨k, by simp; omega, hd⟩
            · exact ⟨i, by simp, by rw [hj]; exact hy⟩, q⟩, fun ⟨d, ⟨k, hk, hd⟩, q⟩ => ⟨d, by
            by_cases e : k = i
            · subst e; rw [hj, hy] at hd; injection hd with hd; exact .inr hd.symm
            · exact .inl ⟨k, by simp only [] at hk; omega, hd⟩, q⟩⟩, by simp only []; omega, by simp only []; omega⟩, (by exact weak_mk wkD wkH wkN wkM (by omega))⟩
    · obtain rfl : i = L.length := by omega
      have hsame : lc = ld := by
        refine sorted_ext cc.v.srt cd.v.srt fun z => ?_
        rw [m1 z, m2 z]
        by_cases hn0 : L.length = 0
        · constructor
          · rintro ⟨d, ⟨k, hk, _⟩, _⟩; omega
          · rintro ⟨d, ⟨k, hk, _⟩, _⟩; omega
        have htn : ((IntKind.u64.wrap turn).tmod L.length).toNat < L.length := by
          rw [Int.tmod_eq_emod_of_nonneg (wrap_u_ok turn).1]
          have := Int.emod_lt_of_pos (IntKind.u64.wrap turn) (show (0 : Int) < L.length by omega)
          have := Int.emod_nonneg (IntKind.u64.wrap turn) (show (L.length : Int) ≠ 0 by omega)
          omega
        constructor
        · rintro ⟨d, ⟨k, hk, hd⟩, q⟩
          obtain ⟨k2, hk2, e⟩ := rot_all htn hk
          exact ⟨d, ⟨k2, hk2, by rw [e]; exact hd⟩, q⟩
        · rintro ⟨d, ⟨k, hk, hd⟩, q⟩
          exact ⟨d, ⟨_, Nat.mod_lt _ (by omega), hd⟩, q⟩
      subst hsame
      obtain ⟨s', c', q1⟩ := adv_V cc to
      obtain ⟨s2', c2', q2⟩ := adv_V cd to
      have q1 := q1 (C := 24) (H := 20) (a := 22) (m := 18) (by decide)
      have q2 := q2 (C := 34) (H := 30) (a := 32) (m := 28) (by decide)
      have q3 := left_V c' (C := 24) (H := 20) (a := 22) (m := 18) (by decide)
      have q4 := left_V c2' (C := 34) (H := 30) (a := 32) (m := 28) (by decide)
      have q5 := cc.v.small
      have q6 : (advL 0 lc to).2.2.1.length ≤ 4096 := by
        unfold advL
        split
        · simp
        · have := tk_len (dueB to) lc
          simp only [List.length_map]
          omega
      generalize advL 0 lc to = A at *
      obtain ⟨an, al, ad, ae⟩ := A
      simp only [] at q1 q2 q3 q4 q6
      have c4 := same5_ok ad ad (by omega) (by omega)
      rw [show decide (ad = ad) = true by simp] at c4
      repeat' first
        | refine Z0 ?_
        | refine Zx ?_
        | refine Zfc q1 ?_
        | refine Zfc q2 ?_
        | refine Zfc q3 ?_
        | refine Zfc q4 ?_
        | refine Zc c4 ?_
        | (refine Ze ?_; clear hK K)
        | refine W_reg fun K hK => ?_
        | refine W_drwR rfl mixed (by decide +kernel) fun K hK => ?_
        | refine W_drw mixed (by decide +kernel) fun K hK => ?_
        | (refine Zb ?_ ?_ <;> intro hb <;> first | (simp (disch := omega) only [go_sem] at hb; done) | (simp (disch := omega) only [go_sem] at hb; try omega) | try omega)
        | (refine Zl ?_; intro bn hnil; (try simp (disch := omega) only [go_sem] at hnil); dsimp only [putT, List.set_cons_succ, List.set_cons_zero])
      all_goals exact Zr

end Go.Proofs.Ytfbmbjfcgoahfaa
