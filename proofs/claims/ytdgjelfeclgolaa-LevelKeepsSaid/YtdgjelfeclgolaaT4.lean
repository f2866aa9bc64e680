/-
  slices.SortStableFunc at a struct: the blocks; the top; walked. From a template.
-/
import Derived.Test.YtdgjelfeclgolaaT3
namespace Go.Proofs.Ytdgjelfeclgolaa
open Go Go.AM
set_option maxHeartbeats 8000000
set_option maxRecDepth 8000
set_option linter.unusedSimpArgs false
set_option linter.unusedVariables false

section
variable {c : TTicket → TTicket → Int} {key : TTicket → Int}

theorem insS_F (hc : CmpOk 114 c) (hk : ∀ x y, c x y < 0 ↔ key x < key y) (d : Array TTicket) (N a b : Nat) (hN : d.size = N) (hab : a ≤ b) (hb : b ≤ N) (hn : N ≤ 4294967296) (A : Nat) : FCall Try.prog 120 [.ref A N 0 N false N, .int .i64 a, .int .i64 b, .func (.func 114) [] []] [(A, .arr 5 (rws d.toList))]
    (.tuple []) [(A, .arr 5 (rws (segA key d a b).toList))] := by
  subst hN
  rw [← ins_seg (lt := ltC c) (fun x y => by simp only [ltC, decide_eq_true_eq]; exact hk x y) d hab hb]
  exact FCall.arr (ins_ok hc d a b hab hb hn) A (by simp [lfA_leaf, lf_ref, lf_int, lf_fn]) (lfA_tup _ _ (by simp)) rfl rfl

theorem stb_ok (hc : CmpOk 114 c) (hk : ∀ x y, c x y < 0 ↔ key x < key y) (d : Array TTicket) (hn : d.size ≤ 4294967296) :
    HCall Try.prog 118 [.ref 0 d.size 0 d.size false d.size, .int .i64 d.size, .func (.func 114) [] []] [(0, .arr 5 (rws d.toList))] 1
    (fun r h _ => r = .tuple [] ∧ h = [(0, .arr 5 (rws (ss key d.toList)))]) := by
  obtain ⟨R, hR⟩ : ∃ R, ss key d.toList = R := ⟨_, rfl⟩
  rw [hR]
  obtain ⟨D, hD⟩ : ∃ D, d.toList = D := ⟨_, rfl⟩
  have hF0 : FP key D d.toList := by rw [hD]; exact .refl _
  rw [hD] at hR
  generalize hN : d.size = N at *
  refine HCall_intro (c := Try.f118.body.getD .skip) Try.func118 rfl (by decide +kernel) (W_start ?_)
  simp only [Try.f118, go_sem]
  repeat' first
    | refine Z0 ?_
    | refine Zx ?_
    | (refine Ze ?_; clear hK K)
    | refine W_reg fun K hK => ?_
    | refine W_drwR rfl mixed (by decide +kernel) fun K hK => ?_
    | refine W_drw mixed (by decide +kernel) fun K hK => ?_
    | (refine Zb ?_ ?_ <;> intro hb <;> first | (simp (disch := omega) only [go_sem] at hb; done) | (simp (disch := omega) only [go_sem] at hb; try omega) | try omega)
    | (refine Zl ?_; intro bn hnil; (try simp (disch := omega) only [go_sem] at hnil); dsimp only [putT, List.set_cons_succ, List.set_cons_zero])
  refine W_foldM (fun (q : Nat × Array TTicket) => [none, none, none, none, none, none, none, some (.int .i64 q.1), some (.int .i64 ((q.1 + 20 : Nat) : Int)), none, none, some .junk, some .junk, some .junk, some .junk, some .junk, some .junk, some .junk, some .junk, some .junk, some .junk, some .junk, some .junk]) (fun q => [(0, .arr 5 (rws q.2.toList))])
    (fun q => 20 ∣ q.1 ∧ q.1 ≤ N ∧ q.2.size = N ∧ FP key D q.2.toList ∧ Runs key 20 q.1 q.2) (fun q => N - q.1) (0, d) ⟨Nat.dvd_zero _, Nat.zero_le _, hN, hF0, Runs.zero⟩ (by exact weak_mk wkD wkH wkN wkM (by omega)) ?_
  clear hD hF0 hN
  rintro ⟨a, d1⟩ ⟨k1, k2, k3, k4, k5⟩
  simp only [] at k1 k2 k3 k4 k5
  simp only [msk_none, msk_some, msk_nil]
  by_cases hb : a + 20 ≤ N
  · have c1 := insS_F hc hk d1 N a (a + 20) k3 (by omega) hb hn 0
    have u1 : ((a + 20 : Nat) : Int) + 20 = ((a + 20 + 20 : Nat) : Int) := by omega
    have hs := seg_size (key := key) d1 (show a ≤ a + 20 by omega) (by omega)
    have hf := fp_seg (key := key) d1 (show a ≤ a + 20 by omega) (by omega)
    have zz1 := u1
    repeat' first
      | refine Z1 ?_
      | refine Zx ?_
      | refine Zfc c1 ?_
      | (refine Ze ?_; clear hK K)
      | refine W_reg fun K hK => ?_
      | refine W_drwR rfl mixed (by decide +kernel) fun K hK => ?_
      | refine W_drw mixed (by decide +kernel) fun K hK => ?_
      | (refine Zb ?_ ?_ <;> intro hb <;> first | (simp (disch := omega) only [go_sem, zz1] at hb; done) | (simp (disch := omega) only [go_sem, zz1] at hb; try omega) | try omega)
      | (refine Zl ?_; intro bn hnil; (try simp (disch := omega) only [go_sem, zz1] at hnil); dsimp only [putT, List.set_cons_succ, List.set_cons_zero])
    exact L_next ⟨(a + 20, segA key d1 a (a + 20)), by simp only []; omega, ⟨(Nat.dvd_add_right k1).2 (Nat.dvd_refl _), hb, by simp only []; omega, k4.trans hf, k5.step (by omega) k1 (by omega) (by omega)⟩, (by exact weak_mk wkD wkH wkN wkM (by omega))⟩
  · have c1 := insS_F hc hk d1 N a N k3 (by omega) (Nat.le_refl _) hn 0
    have hs := seg_size (key := key) d1 (show a ≤ N by omega) (by omega)
    have hf := fp_seg (key := key) d1 (show a ≤ N by omega) (by omega)
    have hr := k5.last (by omega) k1 (by omega) (by omega)
    repeat' first
      | refine Z0 ?_
      | refine Zx ?_
      | refine Zfc c1 ?_
      | (refine Ze ?_; clear hK K)
      | refine W_reg fun K hK => ?_
      | refine W_drwR rfl mixed (by decide +kernel) fun K hK => ?_
      | refine W_drw mixed (by decide +kernel) fun K hK => ?_
      | (refine Zb ?_ ?_ <;> intro hb <;> first | (simp (disch := omega) only [go_sem] at hb; done) | (simp (disch := omega) only [go_sem] at hb; try omega) | try omega)
      | (refine Zl ?_; intro bn hnil; (try simp (disch := omega) only [go_sem] at hnil); dsimp only [putT, List.set_cons_succ, List.set_cons_zero])
    have hF : FP key D (segA key d1 a N).toList := k4.trans hf
    have hs2 : (segA key d1 a N).size = N := by omega
    generalize segA key d1 a N = d2 at *
    clear hs hf k4 k5 k3 k2 k1 hb c1
    refine W_foldM (fun (q : Nat × Array TTicket) => [none, none, none, none, none, none, some (.int .i64 q.1), some .junk, some .junk, some .junk, none, none, none, none, none, none, none, none, none, none, none, none, none, none, none, none, none, none, some .junk, some .junk, some .junk, some .junk, some .junk, some .junk, some .junk, some .junk, some .junk, some .junk, some .junk, some .junk, some .junk, some .junk, some .junk, some .junk, some .junk, some .junk, some .junk, some .junk, some .junk, some .junk, some .junk, some .junk, some .junk, some .junk, some .junk, some .junk, some .junk, some .junk, some .junk, some .junk, some .junk, some .junk, some .junk]) (fun q => [(0, .arr 5 (rws q.2.toList))])
      (fun q => 0 < q.1 ∧ q.1 ≤ 8589934592 ∧ q.2.size = N ∧ FP key D q.2.toList ∧ Runs key q.1 q.2.size q.2) (fun q => N - q.1) (20, d2) ⟨by simp only []; omega, by simp only []; omega, hs2, hF, hr⟩ (by exact weak_mk wkD wkH wkN wkM (by omega)) ?_
    clear hF hr hs2
    rintro ⟨w, d3⟩ ⟨k1, k2, k3, k4, k5⟩
    simp only [] at k1 k2 k3 k4 k5
    simp only [msk_none, msk_some, msk_nil]
    by_cases hw : w < N
    · have u1 : 2 * (w : Int) = ((2 * w : Nat) : Int) := by omega
      have zz1 := u1
      repeat' first
        | refine Z1 ?_
        | refine Zx ?_
        | (refine Ze ?_; clear hK K)
        | refine W_reg fun K hK => ?_
        | refine W_drwR rfl mixed (by decide +kernel) fun K hK => ?_
        | refine W_drw mixed (by decide +kernel) fun K hK => ?_
        | (refine Zb ?_ ?_ <;> intro hb <;> first | (simp (disch := omega) only [go_sem, zz1] at hb; done) | (simp (disch := omega) only [go_sem, zz1] at hb; try omega) | try omega)
        | (refine Zl ?_; intro bn hnil; (try simp (disch := omega) only [go_sem, zz1] at hnil); dsimp only [putT, List.set_cons_succ, List.set_cons_zero])
      refine W_foldM (fun (q : Nat × Array TTicket) => [none, none, none, none, none, none, none, some (.int .i64 q.1), some (.int .i64 ((q.1 + 2 * w : Nat) : Int)), none, none, none, none, none, none, none, none, none, none, none, none, none, none, none, none, none, none, none, none, none, none, none, none, some .junk, some .junk, some .junk, some .junk, some .junk, some .junk, some .junk, some .junk, some .junk, some .junk, some .junk, some .junk, some .junk, some .junk, some .junk, some .junk]) (fun q => [(0, .arr 5 (rws q.2.toList))])
        (fun q => 2 * w ∣ q.1 ∧ q.1 ≤ N ∧ q.2.size = N ∧ FP key D q.2.toList ∧ Runs key (2 * w) q.1 q.2 ∧ (∀ s, w ∣ s → q.1 ≤ s → s < N → Srt key (slc q.2 s (min (s + w) N)))) (fun q => N - q.1) (0, d3)
        ⟨Nat.dvd_zero _, Nat.zero_le _, k3, k4, Runs.zero, fun s h1 h2 h3 => by have := k5 s h1 (by omega); rw [k3] at this; exact this⟩ (by simp only [Nat.zero_add]; exact (by exact weak_mk wkD wkH wkN wkM (by omega))) ?_
      clear k3 k4 k5
      rintro ⟨a, d4⟩ ⟨m1, m2, m3, m4, m5, m6⟩
      simp only [] at m1 m2 m3 m4 m5 m6
      simp only [msk_none, msk_some, msk_nil]
      have hwa : w ∣ a := Nat.dvd_trans ⟨2, by omega⟩ m1
      by_cases hb : a + 2 * w ≤ N
      · have c1 := sym_F hc hk d4 N a (a + w) (a + 2 * w) m3 (by omega) (by omega) hb hn (by
          have := m6 a hwa (Nat.le_refl _) (by omega)
          rw [Nat.min_eq_left (by omega)] at this
          exact this) (by
          have := m6 (a + w) ((Nat.dvd_add_right hwa).2 (Nat.dvd_refl _)) (by omega) (by omega)
          rw [Nat.min_eq_left (by omega), show a + w + w = a + 2 * w by omega] at this
          exact this) 0
        have u2 : (a : Int) + (w : Int) = ((a + w : Nat) : Int) := by omega
        have u3 : ((a + 2 * w : Nat) : Int) + ((2 * w : Nat) : Int) = ((a + 2 * w + 2 * w : Nat) : Int) := by omega
        have hs := seg_size (key := key) d4 (show a ≤ a + 2 * w by omega) (by omega)
        have hf := fp_seg (key := key) d4 (show a ≤ a + 2 * w by omega) (by omega)
        have zz1 := u1
        have zz2 := u2
        have zz3 := u3
        repeat' first
          | refine Z3 ?_
          | refine Zx ?_
          | refine Zfc c1 ?_
          | (refine Ze ?_; clear hK K)
          | refine W_reg fun K hK => ?_
          | refine W_drwR rfl mixed (by decide +kernel) fun K hK => ?_
          | refine W_drw mixed (by decide +kernel) fun K hK => ?_
          | (refine Zb ?_ ?_ <;> intro hb <;> first | (simp (disch := omega) only [go_sem, zz1, zz2, zz3] at hb; done) | (simp (disch := omega) only [go_sem, zz1, zz2, zz3] at hb; try omega) | try omega)
          | (refine Zl ?_; intro bn hnil; (try simp (disch := omega) only [go_sem, zz1, zz2, zz3] at hnil); dsimp only [putT, List.set_cons_succ, List.set_cons_zero])
        exact L_next ⟨(a + 2 * w, segA key d4 a (a + 2 * w)), by simp only []; omega, ⟨(Nat.dvd_add_right m1).2 (Nat.dvd_refl _), hb, by simp only []; omega, m4.trans hf, m5.step (by omega) m1 (by omega) (by omega), fun s h1 h2 h3 => by
          have h2 : a + 2 * w ≤ s := h2
          rw [slc_congr (d := d4) (a := s) (b := min (s + w) N) (by omega) (by omega) rfl fun i hi => seg_out _ (by omega) (by omega) (.inr (by omega))]
          exact m6 s h1 (by omega) h3⟩, (by exact weak_mk wkD wkH wkN wkM (by omega))⟩
      · have u2 : (a : Int) + (w : Int) = ((a + w : Nat) : Int) := by omega
        by_cases hm : a + w < N
        · have c1 := sym_F hc hk d4 N a (a + w) N m3 (by omega) (by omega) (Nat.le_refl _) hn (by
            have := m6 a hwa (Nat.le_refl _) (by omega)
            rw [Nat.min_eq_left (by omega)] at this
            exact this) (by
            have := m6 (a + w) ((Nat.dvd_add_right hwa).2 (Nat.dvd_refl _)) (by omega) (by omega)
            rw [Nat.min_eq_right (by omega)] at this
            exact this) 0
          have hs := seg_size (key := key) d4 (show a ≤ N by omega) (by omega)
          have hf := fp_seg (key := key) d4 (show a ≤ N by omega) (by omega)
          have hr := m5.last (by omega) m1 (show a ≤ N by omega) (by omega)
          have u3 : (w : Int) * 2 = ((2 * w : Nat) : Int) := by omega
          have zz1 := u2
          have zz2 := u3
          repeat' first
            | refine Z2 ?_
            | refine Zx ?_
            | refine Zfc c1 ?_
            | (refine Ze ?_; clear hK K)
            | refine W_reg fun K hK => ?_
            | refine W_drwR rfl mixed (by decide +kernel) fun K hK => ?_
            | refine W_drw mixed (by decide +kernel) fun K hK => ?_
            | (refine Zb ?_ ?_ <;> intro hb <;> first | (simp (disch := omega) only [go_sem, zz1, zz2] at hb; done) | (simp (disch := omega) only [go_sem, zz1, zz2] at hb; try omega) | try omega)
            | (refine Zl ?_; intro bn hnil; (try simp (disch := omega) only [go_sem, zz1, zz2] at hnil); dsimp only [putT, List.set_cons_succ, List.set_cons_zero])
          exact L_next ⟨(2 * w, segA key d4 a N), by simp only []; omega, ⟨by simp only []; omega, by simp only []; omega, by simp only []; omega, m4.trans hf, hr⟩, (by exact weak_mk wkD wkH wkN wkM (by omega))⟩
        · have hr : Runs key (2 * w) d4.size d4 := fun s h1 h2 => by
            by_cases hsa : s < a
            · exact m5 s h1 hsa
            · by_cases e : s = a
              · subst e
                have := m6 s hwa (Nat.le_refl _) (by omega)
                rw [show min (s + 2 * w) d4.size = min (s + w) N by omega]
                exact this
              · have := dvd_gap m1 h1 (by omega); omega
          have u3 : (w : Int) * 2 = ((2 * w : Nat) : Int) := by omega
          have zz1 := u2
          have zz2 := u3
          repeat' first
            | refine Z2 ?_
            | refine Zx ?_
            | (refine Ze ?_; clear hK K)
            | refine W_reg fun K hK => ?_
            | refine W_drwR rfl mixed (by decide +kernel) fun K hK => ?_
            | refine W_drw mixed (by decide +kernel) fun K hK => ?_
            | (refine Zb ?_ ?_ <;> intro hb <;> first | (simp (disch := omega) only [go_sem, zz1, zz2] at hb; done) | (simp (disch := omega) only [go_sem, zz1, zz2] at hb; try omega) | try omega)
            | (refine Zl ?_; intro bn hnil; (try simp (disch := omega) only [go_sem, zz1, zz2] at hnil); dsimp only [putT, List.set_cons_succ, List.set_cons_zero])
          exact L_next ⟨(2 * w, d4), by simp only []; omega, ⟨by simp only []; omega, by simp only []; omega, m3, m4, hr⟩, (by exact weak_mk wkD wkH wkN wkM (by omega))⟩
    · have e : d3.toList = ss key D := by
        refine ss_of ?_ k4
        rw [← slc_all]
        by_cases h0 : N = 0
        · rw [show d3.size = 0 by omega, slc_nil]; exact srt_nil
        · have := k5 0 (Nat.dvd_zero _) (by omega)
          rw [Nat.zero_add, Nat.min_eq_right (by omega)] at this
          exact this
      rw [e, hR]
      repeat' first
        | refine Z0 ?_
        | refine Zx ?_
        | (refine Ze ?_; clear hK K)
        | refine W_reg fun K hK => ?_
        | refine W_drwR rfl mixed (by decide +kernel) fun K hK => ?_
        | refine W_drw mixed (by decide +kernel) fun K hK => ?_
        | (refine Zb ?_ ?_ <;> intro hb <;> first | (simp (disch := omega) only [go_sem] at hb; done) | (simp (disch := omega) only [go_sem] at hb; try omega) | try omega)
        | (refine Zl ?_; intro bn hnil; (try simp (disch := omega) only [go_sem] at hnil); dsimp only [putT, List.set_cons_succ, List.set_cons_zero])
      exact Zrf

theorem stb_F (hc : CmpOk 114 c) (hk : ∀ x y, c x y < 0 ↔ key x < key y) (d : List TTicket) (N : Nat) (hN : d.length = N) (hn : N ≤ 4294967296) (A : Nat) : FCall Try.prog 118 [.ref A N 0 N false N, .int .i64 N, .func (.func 114) [] []] [(A, .arr 5 (rws d))]
    (.tuple []) [(A, .arr 5 (rws (ss key d)))] := by
  subst hN
  have h := stb_ok hc hk d.toArray hn
  exact FCall.arr h A (by simp [lfA_leaf, lf_ref, lf_int, lf_fn]) (lfA_tup _ _ (by simp)) rfl rfl

theorem ssf_ok (hc : CmpOk 114 c) (hk : ∀ x y, c x y < 0 ↔ key x < key y) (d : List TTicket) (hn : d.length ≤ 4294967296) : HCall Try.prog 113 [.ref 0 d.length 0 d.length false d.length, .func (.func 114) [] []] [(0, .arr 5 (rws d))] 1
    (fun r h _ => r = .tuple [] ∧ h = [(0, .arr 5 (rws (ss key d)))]) := by
  have c1 := stb_F hc hk d _ rfl hn 0
  refine HCall_intro (c := Try.f113.body.getD .skip) Try.func113 rfl (by decide +kernel) (W_start ?_)
  simp only [Try.f113, go_sem]
  repeat' first
    | refine Z0 ?_
    | refine Zx ?_
    | refine Zfc c1 ?_
    | (refine Ze ?_; clear hK K)
    | refine W_reg fun K hK => ?_
    | refine W_drwR rfl mixed (by decide +kernel) fun K hK => ?_
    | refine W_drw mixed (by decide +kernel) fun K hK => ?_
    | (refine Zb ?_ ?_ <;> intro hb <;> first | (simp (disch := omega) only [go_sem] at hb; done) | (simp (disch := omega) only [go_sem] at hb; try omega) | try omega)
    | (refine Zl ?_; intro bn hnil; (try simp (disch := omega) only [go_sem] at hnil); dsimp only [putT, List.set_cons_succ, List.set_cons_zero])
  exact Zrf

theorem ssf_F (hc : CmpOk 114 c) (hk : ∀ x y, c x y < 0 ↔ key x < key y) (d : List TTicket) (N : Nat) (hN : d.length = N) (hn : N ≤ 4294967296) (A : Nat) : FCall Try.prog 113 [.ref A N 0 N false N, .func (.func 114) [] []] [(A, .arr 5 (rws d))]
    (.tuple []) [(A, .arr 5 (rws (ss key d)))] := by
  subst hN
  exact FCall.arr (ssf_ok hc hk d hn) A (by simp [lfA_leaf, lf_ref, lf_int, lf_fn]) (lfA_tup _ _ (by simp)) rfl rfl

end
end Go.Proofs.Ytdgjelfeclgolaa
