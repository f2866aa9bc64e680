/-
  HeapOrder; walked.
-/
import Derived.Test.YtfbmbjfcgoahfaaF19
namespace Go.Proofs.Ytfbmbjfcgoahfaa
open Go Go.AM
set_option maxHeartbeats 8000000
set_option maxRecDepth 8000
set_option linter.unusedSimpArgs false
set_option linter.unusedVariables false

def rotN (n t i : Nat) : Nat := if i + t < n then i + t else i + t - n
theorem rotN_lt {n t i : Nat} (ht : t < n) (hi : i < n) : rotN n t i < n := by unfold rotN; split <;> omega
theorem rotN_inj {n t i k : Nat} (ht : t < n) (hi : i < n) (hk : k < n) (e : rotN n t i = rotN n t k) : i = k := by
  unfold rotN at e; split at e <;> split at e <;> omega
theorem rotN_sur {n t j : Nat} (ht : t < n) (hj : j < n) : ∃ k, k < n ∧ rotN n t k = j := by
  by_cases h : t ≤ j
  · exact ⟨j - t, by omega, by unfold rotN; split <;> omega⟩
  · exact ⟨j + n - t, by omega, by unfold rotN; split <;> omega⟩
theorem rotN_mod {n t i : Nat} (ht : t < n) (hi : i < n) : ((i : Int) + (t : Int)).tmod (n : Int) = (rotN n t i : Nat) := by
  rw [Int.tmod_eq_emod_of_nonneg (by omega)]
  unfold rotN
  split
  · rw [Int.emod_eq_of_lt (by omega) (by omega)]; omega
  · rw [← Int.sub_emod_right, Int.emod_eq_of_lt (by omega) (by omega)]; omega

theorem push_new {l : List TItem} {x : TItem} (h : ∀ y, y ∈ l → y.iD ≠ x.iD) (hl : l.length < 4096) : pushL l x = (insL l x, 0) := by
  unfold pushL
  have : hasL l x.iD = false := hasL_f.2 h
  rw [if_neg (by rw [this]; decide), if_neg (by omega)]

theorem change_new {l : List TItem} {x x' : TItem} (e : x'.iD = x.iD) (h : ∀ y, y ∈ l → y.iD ≠ x.iD) (hl : l.length < 4095) (hn : ((insL l x').map (·.iD)).Nodup) : ∃ L, changeL (insL l x') x = (L, 0) ∧ L.length = l.length + 1 ∧ ∀ y, y ∈ L ↔ (y = x ∨ y ∈ l) := by
  unfold changeL
  have h1 : hasL (insL l x') x.iD = true := hasL_t.2 ⟨x', mem_insL.2 (.inl rfl), e⟩
  rw [if_pos h1]
  have hlen := len_insL l x'
  have hle : (cutL (insL l x') x.iD).length ≤ (insL l x').length := List.length_filter_le _ _
  rw [push_new (fun y hy => (mem_cutL.1 hy).2) (by omega)]
  have hcl := len_cutL hn ⟨x', mem_insL.2 (.inl rfl), e⟩
  refine ⟨_, rfl, by rw [len_insL]; omega, fun y => ?_⟩
  rw [mem_insL, mem_cutL, mem_insL]
  constructor
  · rintro (h2 | ⟨rfl | h2, h3⟩)
    · exact .inl h2
    · exact absurd e h3
    · exact .inr h2
  · rintro (h2 | h2)
    · exact .inl h2
    · exact .inr ⟨.inr h2, h y h2⟩

theorem half_ok (k : Int) (h : 0 ≤ k ∧ k ≤ 18446744073709551615) : IntKind.u64.wrap (k.tdiv 2) = k.tdiv 2 ∧ 0 ≤ k.tdiv 2 ∧ k.tdiv 2 ≤ 18446744073709551615 := by
  rw [Int.tdiv_eq_ediv_of_nonneg h.1, IntKind.wrap_u64]; omega

theorem heapOrder_ok (l : List TItem) (turn : Int) (hl : l.length ≤ maxLen) (hw : ∀ x, x ∈ l → x.wf) (hturn : -9223372036854775808 ≤ turn ∧ turn ≤ 9223372036854775807) : PCall Try.prog 12 [.sl (rws l) none, .int .i64 turn] (· = .bool true) := by
  have c0 := awake4_ok
  unfold maxLen at hl
  obtain ⟨n, hn⟩ : ∃ n, min l.length 60 = n := ⟨_, rfl⟩
  have n1 : n ≤ 60 := by omega
  have n2 : min (l.length : Int) 60 = (n : Int) := by omega
  have n3 : (rws l).take n = rws (l.take n) := rws_take _ _
  have n4 : (l.take n).length = n := by rw [List.length_take]; omega
  have hw' : ∀ x, x ∈ l.take n → x.wf := fun x hx => hw x (List.mem_of_mem_take hx)
  generalize l.take n = L at *
  refine PCall_intro (c := Try.f12.body.getD .skip) Try.func12 rfl (by decide +kernel) Zf (W_start ?_)
  simp only [Try.f12, go_sem]
  have zz1 := n2
  have zz2 := n3
  have zz3 := n4
  repeat' first
    | refine Z3 ?_
    | refine Zx ?_
    | refine Zc c0 ?_
    | (refine Ze ?_; clear hK K)
    | refine W_reg fun K hK => ?_
    | refine W_drwR rfl mixed (by decide +kernel) fun K hK => ?_
    | refine W_drw mixed (by decide +kernel) fun K hK => ?_
    | (refine Zb ?_ ?_ <;> intro hb <;> first | (simp (disch := omega) only [go_sem, zz1, zz2, zz3] at hb; done) | (simp (disch := omega) only [go_sem, zz1, zz2, zz3] at hb; try omega) | try omega)
    | (refine Zl ?_; intro bn hnil; (try simp (disch := omega) only [go_sem, zz1, zz2, zz3] at hnil); dsimp only [putT, List.set_cons_succ, List.set_cons_zero])
  refine W_foldK (fun (i : Nat) => [none, none, none, none, some .junk, none, some (.int .i64 i), some .junk, none, none, none, none, none, none, none, none, none, none, none, none, none, some .junk, some .junk, some .junk, some .junk, some .junk, some .junk, some .junk, some .junk, some .junk, some .junk, some .junk, some .junk, some .junk, some .junk, some .junk, some .junk, some .junk, some .junk, some .junk, some .junk, some .junk]) (fun i => i ≤ n ∧ ∀ a b x y, b < a → a < i → L[a]? = some x → L[b]? = some y → x.iD ≠ y.iD) (fun i => n - i) 0 ⟨by omega, by omega⟩ (by exact weak_mk wkD wkH wkN wkM (by omega)) ?_
  rintro i ⟨h1, h2⟩
  simp only [msk_none, msk_some, msk_nil]
  by_cases hi : i < n
  · obtain ⟨x, hx⟩ := some_of_lt (show i < L.length by omega)
    repeat' first
      | refine Z0 ?_
      | refine Zx ?_
      | (refine Ze ?_; clear hK K)
      | refine W_reg fun K hK => ?_
      | refine W_drwR rfl mixed (by decide +kernel) fun K hK => ?_
      | refine W_drw mixed (by decide +kernel) fun K hK => ?_
      | (refine Zb ?_ ?_ <;> intro hb <;> first | (simp (disch := omega) only [go_sem] at hb; done) | (simp (disch := omega) only [go_sem] at hb; try omega) | try omega)
      | (refine Zl ?_; intro bn hnil; (try simp (disch := omega) only [go_sem] at hnil); dsimp only [putT, List.set_cons_succ, List.set_cons_zero])
    refine W_foldK (fun (k : Nat) => [none, none, none, none, some .junk, none, none, some (.int .i64 k), none, none, none, none, none, none, none, none, none, none, none, none, none, none, none, none, none, none, some .junk, some .junk, some .junk, some .junk, some .junk, some .junk, some .junk, some .junk, some .junk, some .junk, some .junk, some .junk, some .junk, some .junk, some .junk, some .junk]) (fun k => k ≤ i ∧ ∀ b y, b < k → L[b]? = some y → x.iD ≠ y.iD) (fun k => i - k) 0 ⟨by omega, by omega⟩ (by exact weak_mk wkD wkH wkN wkM (by omega)) ?_
    rintro k ⟨k1, k2⟩
    simp only [msk_none, msk_some, msk_nil]
    by_cases hk : k < i
    · obtain ⟨y, hy⟩ := some_of_lt (show k < L.length by omega)
      by_cases e : x.iD = y.iD
      · have zz1 := rws_get hx
        have zz2 := rws_get hy
        have zz3 := e
        have zz4 := n4
        repeat' first
          | refine Z4 ?_
          | refine Zx ?_
          | (refine Ze ?_; clear hK K)
          | refine W_reg fun K hK => ?_
          | refine W_drwR rfl mixed (by decide +kernel) fun K hK => ?_
          | refine W_drw mixed (by decide +kernel) fun K hK => ?_
          | (refine Zb ?_ ?_ <;> intro hb <;> first | (simp (disch := omega) only [go_sem, zz1, zz2, zz3, zz4] at hb; done) | (simp (disch := omega) only [go_sem, zz1, zz2, zz3, zz4] at hb; try omega) | try omega)
          | (refine Zl ?_; intro bn hnil; (try simp (disch := omega) only [go_sem, zz1, zz2, zz3, zz4] at hnil); dsimp only [putT, List.set_cons_succ, List.set_cons_zero])
        exact Zr
      · have zz1 := rws_get hx
        have zz2 := rws_get hy
        have zz3 := e
        have zz4 := n4
        repeat' first
          | refine Z4 ?_
          | refine Zx ?_
          | (refine Ze ?_; clear hK K)
          | refine W_reg fun K hK => ?_
          | refine W_drwR rfl mixed (by decide +kernel) fun K hK => ?_
          | refine W_drw mixed (by decide +kernel) fun K hK => ?_
          | (refine Zb ?_ ?_ <;> intro hb <;> first | (simp (disch := omega) only [go_sem, zz1, zz2, zz3, zz4] at hb; done) | (simp (disch := omega) only [go_sem, zz1, zz2, zz3, zz4] at hb; try omega) | try omega)
          | (refine Zl ?_; intro bn hnil; (try simp (disch := omega) only [go_sem, zz1, zz2, zz3, zz4] at hnil); dsimp only [putT, List.set_cons_succ, List.set_cons_zero])
        exact L_next ⟨k + 1, by omega, ⟨by omega, fun b z hb hz => by
          by_cases e2 : b = k
          · subst e2; rw [hy] at hz; injection hz with hz; exact hz ▸ e
          · exact k2 b z (by omega) hz⟩, (by exact weak_mk wkD wkH wkN wkM (by omega))⟩
    · repeat' first
        | refine Z0 ?_
        | refine Zx ?_
        | (refine Ze ?_; clear hK K)
        | refine W_reg fun K hK => ?_
        | refine W_drwR rfl mixed (by decide +kernel) fun K hK => ?_
        | refine W_drw mixed (by decide +kernel) fun K hK => ?_
        | (refine Zb ?_ ?_ <;> intro hb <;> first | (simp (disch := omega) only [go_sem] at hb; done) | (simp (disch := omega) only [go_sem] at hb; try omega) | try omega)
        | (refine Zl ?_; intro bn hnil; (try simp (disch := omega) only [go_sem] at hnil); dsimp only [putT, List.set_cons_succ, List.set_cons_zero])
      exact L_next ⟨i + 1, by omega, ⟨by omega, fun a b z w hab ha hz hww => by
        by_cases e2 : a = i
        · subst e2
          rw [hx] at hz; injection hz with hz; subst hz
          exact k2 b w (by omega) hww
        · exact h2 a b z w hab (by omega) hz hww⟩, (by exact weak_mk wkD wkH wkN wkM (by omega))⟩
  · have hdist : ∀ a b x y, b < a → a < n → L[a]? = some x → L[b]? = some y → x.iD ≠ y.iD := fun a b x y p1 p2 => h2 a b x y p1 (by omega)
    clear h2
    repeat' first
      | refine Z0 ?_
      | refine Zx ?_
      | refine Zbn new_N ?_
      | (refine Ze ?_; clear hK K)
      | refine W_reg fun K hK => ?_
      | refine W_drwR rfl mixed (by decide +kernel) fun K hK => ?_
      | refine W_drw mixed (by decide +kernel) fun K hK => ?_
      | (refine Zb ?_ ?_ <;> intro hb <;> first | (simp (disch := omega) only [go_sem] at hb; done) | (simp (disch := omega) only [go_sem] at hb; try omega) | try omega)
      | (refine Zl ?_; intro bn hnil; (try simp (disch := omega) only [go_sem] at hnil); dsimp only [putT, List.set_cons_succ, List.set_cons_zero])
    obtain ⟨T, hT⟩ : ∃ T, IntKind.u64.wrap turn = T := ⟨_, rfl⟩
    have hTu := wrap_u_ok turn
    rw [hT] at hTu
    have idx_eq : ∀ a b x y, a < n → b < n → L[a]? = some x → L[b]? = some y → x.iD = y.iD → a = b := fun a b x y p1 p2 p3 p4 p5 => by
      rcases Nat.lt_trichotomy a b with h | h | h
      · exact absurd p5.symm (hdist b a y x h p2 p4 p3)
      · exact h
      · exact absurd p5 (hdist a b x y h p1 p3 p4)
    refine W_foldM (fun (q : Nat × HS × List TItem × HS × List TItem) => [none, none, none, none, some .junk, none, none, none, none, none, some (.int .i64 q.1), some .junk, none, none, none, none, none, none, none, none, none, none, none, none, none, none, none, none, none, none, none, none, none, none, none, none, none, none, none, none, none, none, none, none, some .junk, some .junk, some .junk, some .junk, some .junk, some .junk, some .junk, some .junk, some .junk, some .junk, some .junk, some .junk, some .junk, some .junk, some .junk, some .junk, some .junk, some .junk, some .junk, some .junk, some .junk, some .junk, some .junk, some .junk, some .junk, some .junk, some .junk, some .junk, some .junk, some .junk, some .junk, some .junk, some .junk, some .junk, some .junk, some .junk, some .junk, some .junk, some .junk, some .junk, some .junk, some .junk]) (fun q => hobs 25 27 23 q.2.2.2.1 ++ hobs 19 21 17 q.2.1)
      (fun q => q.1 ≤ n ∧ View q.2.1 q.2.2.1 ∧ View q.2.2.2.1 q.2.2.2.2 ∧ q.2.2.1.length = q.1 ∧ q.2.2.2.2.length ≤ q.1 ∧ (∀ y, y ∈ q.2.2.1 ↔ ∃ k, k < q.1 ∧ L[k]? = some y) ∧ (∀ y, y ∈ q.2.2.2.2 ↔ ∃ k, k < q.1 ∧ L[rotN n (T.tmod n).toNat k]? = some y)) (fun q => n - q.1)
      (0, newS, [], newS, []) ⟨by omega, View.new, View.new, rfl, by simp, by simp, by simp⟩ (by exact weak_mk wkD wkH wkN wkM (by omega)) ?_
    rintro ⟨j, sg, Lg, sh, Lh⟩ ⟨k1, vg, vh, k2, k3, k4, k5⟩
    simp only [] at k1 vg vh k2 k3 k4 k5
    simp only [msk_none, msk_some, msk_nil]
    by_cases hj : j < n
    · have hm1 : 0 ≤ T.tmod n := Int.tmod_nonneg _ hTu.1
      have hm2 : T.tmod n < n := by rw [Int.tmod_eq_emod_of_nonneg hTu.1]; exact Int.emod_lt_of_pos _ (by omega)
      obtain ⟨t, ht⟩ : ∃ t, (T.tmod n).toNat = t := ⟨_, rfl⟩
      have ht1 : T.tmod n = (t : Int) := by omega
      rw [ht] at k5
      have htn : t < n := by omega
      have hr := rotN_lt htn hj
      have hro := rotN_mod htn hj
      obtain ⟨x, hx⟩ := some_of_lt (show j < L.length by omega)
      obtain ⟨z, hz⟩ := some_of_lt (show rotN n t j < L.length by omega)
      have hxw := hw' x (List.mem_of_getElem? hx)
      have hzw := hw' z (List.mem_of_getElem? hz)
      obtain ⟨w1, w2, w3⟩ := half_ok z.key hzw.1
      have hgx : ∀ y, y ∈ Lg → y.iD ≠ x.iD := fun y hy e => by
        obtain ⟨k, q1, q2⟩ := (k4 y).1 hy
        have := idx_eq k j y x (by omega) hj q2 hx e
        omega
      have hhz : ∀ y, y ∈ Lh → y.iD ≠ z.iD := fun y hy e => by
        obtain ⟨k, q1, q2⟩ := (k5 y).1 hy
        have := rotN_inj htn (by omega) hj (idx_eq _ _ y z (rotN_lt htn (by omega)) hr q2 hz e)
        omega
      obtain ⟨sg', vg', c1⟩ := push_V vg x hxw
      have c1 := c1 (H := 19) (a := 21) (m := 17) (by decide)
      rw [push_new hgx (by omega)] at vg' c1
      obtain ⟨s2, v2, c2⟩ := push_V vh ⟨z.key.tdiv 2, z.iD⟩ ⟨⟨w2, w3⟩, hzw.2⟩
      have c2 := c2 (H := 25) (a := 27) (m := 23) (by decide)
      rw [push_new (x := ⟨z.key.tdiv 2, z.iD⟩) hhz (by omega)] at v2 c2
      obtain ⟨s3, v3, c3⟩ := change_V v2 z hzw
      have c3 := c3 (H := 25) (a := 27) (m := 23) (by decide)
      simp only [] at v2
      obtain ⟨L3, e3, hl3, m3⟩ := change_new (l := Lh) (x := z) (x' := ⟨z.key.tdiv 2, z.iD⟩) rfl hhz (by omega) v2.ids
      rw [show (insL Lh ⟨z.key.tdiv 2, z.iD⟩, (0 : Int)).1 = insL Lh ⟨z.key.tdiv 2, z.iD⟩ from rfl, e3] at v3 c3
      simp only [] at vg' v3 c1 c2 c3
      have u1 : IntKind.u64.wrap (n : Int) = (n : Int) := by rw [IntKind.wrap_u64]; omega
      have zz1 := hT
      have zz2 := ht1
      have zz3 := hro
      have zz4 := u1
      have zz5 := rws_get hx
      have zz6 := rws_get hz
      have zz7 := w1
      have zz8 := n4
      repeat' first
        | refine Z8 ?_
        | refine Zx ?_
        | refine Zfc c1 ?_
        | refine Zfc c2 ?_
        | refine Zfc c3 ?_
        | (refine Ze ?_; clear hK K)
        | refine W_reg fun K hK => ?_
        | refine W_drwR rfl mixed (by decide +kernel) fun K hK => ?_
        | refine W_drw mixed (by decide +kernel) fun K hK => ?_
        | (refine Zb ?_ ?_ <;> intro hb <;> first | (simp (disch := omega) only [go_sem, zz1, zz2, zz3, zz4, zz5, zz6, zz7, zz8] at hb; done) | (simp (disch := omega) only [go_sem, zz1, zz2, zz3, zz4, zz5, zz6, zz7, zz8] at hb; try omega) | try omega)
        | (refine Zl ?_; intro bn hnil; (try simp (disch := omega) only [go_sem, zz1, zz2, zz3, zz4, zz5, zz6, zz7, zz8] at hnil); dsimp only [putT, List.set_cons_succ, List.set_cons_zero])
      all_goals
        refine L_next ⟨(j + 1, sg', insL Lg x, s3, L3), by simp; omega, ⟨by simp; omega, vg', v3, by simp [len_insL, k2], by simp only []; omega, fun y => ?_, fun y => ?_⟩, (by exact weak_mk wkD wkH wkN wkM (by omega))⟩
        · rw [mem_insL, k4 y]
          constructor
          · rintro (rfl | ⟨k, q1, q2⟩)
            · exact ⟨j, by simp, hx⟩
            · exact ⟨k, by simp; omega, q2⟩
          · rintro ⟨k, q1, q2⟩
            by_cases e : k = j
            · subst e; rw [hx] at q2; injection q2 with q2; exact .inl q2.symm
            · exact .inr ⟨k, by simp at q1; omega, q2⟩
        · rw [m3 y, k5 y, ht]
          constructor
          · rintro (rfl | ⟨k, q1, q2⟩)
            · exact ⟨j, by simp, hz⟩
            · exact ⟨k, by simp; omega, q2⟩
          · rintro ⟨k, q1, q2⟩
            by_cases e : k = j
            · subst e; rw [hz] at q2; injection q2 with q2; exact .inl q2.symm
            · exact .inr ⟨k, by simp at q1; omega, q2⟩
    · have e : Lg = Lh := by
        refine sorted_uni vg.srt vh.srt fun y => ?_
        rw [k4 y, k5 y]
        have hjn : j = n := by omega
        subst hjn
        constructor
        · rintro ⟨k, q1, q2⟩
          have hm2 : T.tmod j < j := by rw [Int.tmod_eq_emod_of_nonneg hTu.1]; exact Int.emod_lt_of_pos _ (by omega)
          obtain ⟨i, r1, r2⟩ := rotN_sur (t := (T.tmod j).toNat) (n := j) (by have := Int.tmod_nonneg (j : Int) hTu.1; omega) q1
          exact ⟨i, r1, by rw [r2]; exact q2⟩
        · rintro ⟨k, q1, q2⟩
          have hm2 : T.tmod j < j := by rw [Int.tmod_eq_emod_of_nonneg hTu.1]; exact Int.emod_lt_of_pos _ (by omega)
          exact ⟨_, rotN_lt (by have := Int.tmod_nonneg (j : Int) hTu.1; omega) q1, q2⟩
      subst e
      have d1 := list_V vg (H := 19) (a := 21) (m := 17) (by decide)
      have d2 := list_V vh (H := 25) (a := 27) (m := 23) (by decide)
      have d0 := same_ok Lg Lg (by omega) (by omega)
      rw [decide_eq_true (rfl : Lg = Lg)] at d0
      repeat' first
        | refine Z0 ?_
        | refine Zx ?_
        | refine Zfc d1 ?_
        | refine Zfc d2 ?_
        | refine Zc d0 ?_
        | (refine Ze ?_; clear hK K)
        | refine W_reg fun K hK => ?_
        | refine W_drwR rfl mixed (by decide +kernel) fun K hK => ?_
        | refine W_drw mixed (by decide +kernel) fun K hK => ?_
        | (refine Zb ?_ ?_ <;> intro hb <;> first | (simp (disch := omega) only [go_sem] at hb; done) | (simp (disch := omega) only [go_sem] at hb; try omega) | try omega)
        | (refine Zl ?_; intro bn hnil; (try simp (disch := omega) only [go_sem] at hnil); dsimp only [putT, List.set_cons_succ, List.set_cons_zero])
      exact Zr

end Go.Proofs.Ytfbmbjfcgoahfaa
