/-
  slices.SortStableFunc at a struct: ranges, turning; walked. From a template.
-/
import Derived.Test.YtdgjelfeclgolaaS1
import Derived.Test.YtdgjelfeclgolaaSR
namespace Go.Proofs.Ytdgjelfeclgolaa
open Go Go.AM
set_option maxHeartbeats 8000000
set_option maxRecDepth 8000
set_option linter.unusedSimpArgs false
set_option linter.unusedVariables false

theorem swr_ok (d : Array TTicket) (a b n : Nat) (h1 : a + n ≤ b) (h2 : b + n ≤ d.size) (hn : d.size ≤ 4294967296) : HCall Try.prog 123 [.ref 0 d.size 0 d.size false d.size, .int .i64 a, .int .i64 b, .int .i64 n, .func (.func 114) [] []] [(0, .arr 5 (rws d.toList))] 1
    (fun r h _ => r = .tuple [] ∧ h = [(0, .arr 5 (rws (swrL a b n 0 d).toList))]) := by
  obtain ⟨R, hR⟩ : ∃ R, swrL a b n 0 d = R := ⟨_, rfl⟩
  rw [hR]
  generalize hN : d.size = N at *
  refine HCall_intro (c := Try.f123.body.getD .skip) Try.func123 rfl (by decide +kernel) (W_start ?_)
  simp only [Try.f123, go_sem]
  repeat' first
    | refine Z0 ?_
    | refine Zx ?_
    | (refine Ze ?_; clear hK K)
    | refine W_reg fun K hK => ?_
    | refine W_drwR rfl mixed (by decide +kernel) fun K hK => ?_
    | refine W_drw mixed (by decide +kernel) fun K hK => ?_
    | (refine Zb ?_ ?_ <;> intro hb <;> first | (simp (disch := omega) only [go_sem] at hb; done) | (simp (disch := omega) only [go_sem] at hb; try omega) | try omega)
    | (refine Zl ?_; intro bn hnil; (try simp (disch := omega) only [go_sem] at hnil); dsimp only [putT, List.set_cons_succ, List.set_cons_zero])
  refine W_foldM (fun (q : Nat × Array TTicket) => [none, none, none, none, none, none, none, none, none, none, some (.int .i64 q.1), some .junk, some .junk, some .junk, some .junk, some .junk, some .junk, some .junk, some .junk, some .junk, some .junk, some .junk, some .junk, some .junk, some .junk, some .junk, some .junk, some .junk, some .junk, some .junk, some .junk, some .junk, some .junk, some .junk, some .junk, some .junk, some .junk, some .junk]) (fun q => [(0, .arr 5 (rws q.2.toList))]) (fun q => q.1 ≤ n ∧ q.2.size = N ∧ swrL a b n q.1 q.2 = R) (fun q => n - q.1) (0, d) ⟨Nat.zero_le _, hN, hR⟩ (by exact weak_mk wkD wkH wkN wkM (by omega)) ?_
  clear hR hN
  rintro ⟨i, d1⟩ ⟨k1, k2, k3⟩
  simp only [] at k1 k2 k3
  simp only [msk_none, msk_some, msk_nil]
  have hl1 := srl d1
  rw [k2] at hl1
  rw [swrL] at k3
  by_cases hi : i < n
  · rw [if_pos hi] at k3
    have x1 := sget d1 (i := a + i) (by omega)
    have x2 := sget d1 (i := b + i) (by omega)
    have e1 := sset d1 (a + i) d1[b + i]!
    have e2 := ssw d1 (a + i) (b + i)
    have e3 := ssz d1 (a + i) d1[b + i]!
    rw [k2] at e3
    have x3 := sget (d1.setIfInBounds (a + i) d1[b + i]!) (i := b + i) (by simp; omega)
    have u1 : (a : Int) + (i : Int) = ((a + i : Nat) : Int) := by omega
    have u2 : (b : Int) + (i : Int) = ((b + i : Nat) : Int) := by omega
    simp only [enc_TTicket] at e1 e2
    have zz1 := x1
    have zz2 := x2
    have zz3 := e1
    have zz4 := e2
    have zz5 := e3
    have zz6 := x3
    have zz7 := hl1
    have zz8 := u1
    have zz9 := u2
    repeat' first
      | refine Z9 ?_
      | refine Zx ?_
      | (refine Ze ?_; clear hK K)
      | refine W_reg fun K hK => ?_
      | refine W_drwR rfl mixed (by decide +kernel) fun K hK => ?_
      | refine W_drw mixed (by decide +kernel) fun K hK => ?_
      | (refine Zb ?_ ?_ <;> intro hb <;> first | (simp (disch := omega) only [go_sem, zz1, zz2, zz3, zz4, zz5, zz6, zz7, zz8, zz9] at hb; done) | (simp (disch := omega) only [go_sem, zz1, zz2, zz3, zz4, zz5, zz6, zz7, zz8, zz9] at hb; try omega) | try omega)
      | (refine Zl ?_; intro bn hnil; (try simp (disch := omega) only [go_sem, zz1, zz2, zz3, zz4, zz5, zz6, zz7, zz8, zz9] at hnil); dsimp only [putT, List.set_cons_succ, List.set_cons_zero])
    exact L_next ⟨(i + 1, Sort.swp d1 (a + i) (b + i)), by simp only []; omega, ⟨by simp only []; omega, by rw [Sort.size_swp]; exact k2, k3⟩, (by exact weak_mk wkD wkH wkN wkM (by omega))⟩
  · rw [if_neg hi] at k3
    subst k3
    repeat' first
      | refine Z0 ?_
      | refine Zx ?_
      | (refine Ze ?_; clear hK K)
      | refine W_reg fun K hK => ?_
      | refine W_drwR rfl mixed (by decide +kernel) fun K hK => ?_
      | refine W_drw mixed (by decide +kernel) fun K hK => ?_
      | (refine Zb ?_ ?_ <;> intro hb <;> first | (simp (disch := omega) only [go_sem] at hb; done) | (simp (disch := omega) only [go_sem] at hb; try omega) | try omega)
      | (refine Zl ?_; intro bn hnil; (try simp (disch := omega) only [go_sem] at hnil); dsimp only [putT, List.set_cons_succ, List.set_cons_zero])
    exact Zrf

theorem swr_F (d : Array TTicket) (N a b n : Nat) (hN : d.size = N) (h1 : a + n ≤ b) (h2 : b + n ≤ N) (hn : N ≤ 4294967296) (A : Nat) : FCall Try.prog 123 [.ref A N 0 N false N, .int .i64 a, .int .i64 b, .int .i64 n, .func (.func 114) [] []] [(A, .arr 5 (rws d.toList))]
    (.tuple []) [(A, .arr 5 (rws (swrL a b n 0 d).toList))] := by
  subst hN
  exact FCall.arr (swr_ok d a b n h1 h2 hn) A (by simp [lfA_leaf, lf_ref, lf_int, lf_fn]) (lfA_tup _ _ (by simp)) rfl rfl

theorem rot_ok (d : Array TTicket) (a m b : Nat) (h1 : a < m) (h2 : m < b) (hb : b ≤ d.size) (hn : d.size ≤ 4294967296) : HCall Try.prog 122 [.ref 0 d.size 0 d.size false d.size, .int .i64 a, .int .i64 m, .int .i64 b, .func (.func 114) [] []] [(0, .arr 5 (rws d.toList))] 1
    (fun r h _ => r = .tuple [] ∧ h = [(0, .arr 5 (rws (rotA d a m b).toList))]) := by
  obtain ⟨R, hR⟩ : ∃ R, rotA d a m b = R := ⟨_, rfl⟩
  rw [hR]
  generalize hN : d.size = N at *
  obtain ⟨I, hI⟩ : ∃ I, m - a = I := ⟨_, rfl⟩
  obtain ⟨J, hJ⟩ : ∃ J, b - m = J := ⟨_, rfl⟩
  have u0 : (m : Int) - (a : Int) = (I : Int) := by omega
  have u1 : (b : Int) - (m : Int) = (J : Int) := by omega
  rw [show a = m - I by omega, show b = m + J by omega] at hR
  refine HCall_intro (c := Try.f122.body.getD .skip) Try.func122 rfl (by decide +kernel) (W_start ?_)
  simp only [Try.f122, go_sem]
  have zz1 := u0
  have zz2 := u1
  repeat' first
    | refine Z2 ?_
    | refine Zx ?_
    | (refine Ze ?_; clear hK K)
    | refine W_reg fun K hK => ?_
    | refine W_drwR rfl mixed (by decide +kernel) fun K hK => ?_
    | refine W_drw mixed (by decide +kernel) fun K hK => ?_
    | (refine Zb ?_ ?_ <;> intro hb <;> first | (simp (disch := omega) only [go_sem, zz1, zz2] at hb; done) | (simp (disch := omega) only [go_sem, zz1, zz2] at hb; try omega) | try omega)
    | (refine Zl ?_; intro bn hnil; (try simp (disch := omega) only [go_sem, zz1, zz2] at hnil); dsimp only [putT, List.set_cons_succ, List.set_cons_zero])
  refine W_foldM (fun (q : Nat × Nat × Array TTicket) => [none, none, none, none, none, none, none, none, none, none, some (.int .i64 q.1), some (.int .i64 q.2.1), none, none, none, none, none, none, some .junk, some .junk, some .junk, some .junk, some .junk, some .junk, some .junk, some .junk, some .junk, some .junk, some .junk, some .junk, some .junk, some .junk, some .junk, some .junk, some .junk, some .junk, some .junk, some .junk, some .junk, some .junk, some .junk, some .junk, some .junk, some .junk, some .junk, some .junk, some .junk, some .junk, some .junk, some .junk]) (fun q => [(0, .arr 5 (rws q.2.2.toList))]) (fun q => 0 < q.1 ∧ 0 < q.2.1 ∧ q.1 ≤ I ∧ q.2.1 ≤ J ∧ q.2.2.size = N ∧ rotA q.2.2 (m - q.1) m (m + q.2.1) = R) (fun q => q.1 + q.2.1) (I, J, d) ⟨by simp only []; omega, by simp only []; omega, Nat.le_refl _, Nat.le_refl _, hN, hR⟩ (by exact weak_mk wkD wkH wkN wkM (by omega)) ?_
  clear hR hN
  rintro ⟨i, j, d1⟩ ⟨k1, k2, k3, k4, k5, k6⟩
  simp only [] at k1 k2 k3 k4 k5 k6
  simp only [msk_none, msk_some, msk_nil]
  have w1 : (m : Int) - (i : Int) = ((m - i : Nat) : Int) := by omega
  rcases Nat.lt_trichotomy i j with h | h | h
  · have c1 := swr_F d1 N (m - i) (m + j - i) i k5 (by omega) (by omega) hn 0
    rw [← rot_right (by omega) (by omega) h] at k6
    have w2 : (m : Int) + (j : Int) - (i : Int) = ((m + j - i : Nat) : Int) := by omega
    have w3 : (j : Int) - (i : Int) = ((j - i : Nat) : Int) := by omega
    have zz1 := w1
    have zz2 := w2
    have zz3 := w3
    repeat' first
      | refine Z3 ?_
      | refine Zx ?_
      | refine Zfc c1 ?_
      | (refine Ze ?_; clear hK K)
      | refine W_reg fun K hK => ?_
      | refine W_drwR rfl mixed (by decide +kernel) fun K hK => ?_
      | refine W_drw mixed (by decide +kernel) fun K hK => ?_
      | (refine Zb ?_ ?_ <;> intro hb <;> first | (simp (disch := omega) only [go_sem, zz1, zz2, zz3] at hb; done) | (simp (disch := omega) only [go_sem, zz1, zz2, zz3] at hb; try omega) | try omega)
      | (refine Zl ?_; intro bn hnil; (try simp (disch := omega) only [go_sem, zz1, zz2, zz3] at hnil); dsimp only [putT, List.set_cons_succ, List.set_cons_zero])
    exact L_next ⟨(i, j - i, swrL (m - i) (m + j - i) i 0 d1), by simp only []; omega, ⟨by simp only []; omega, by simp only []; omega, by simp only []; omega, by simp only []; omega, by rw [swrL_size _ _ _ _ _ _ rfl]; exact k5, k6⟩, (by exact weak_mk wkD wkH wkN wkM (by omega))⟩
  · subst h
    have c1 := swr_F d1 N (m - i) m i k5 (by omega) (by omega) hn 0
    rw [rot_end (by omega) (by omega), k6] at c1
    have zz1 := w1
    repeat' first
      | refine Z1 ?_
      | refine Zx ?_
      | refine Zfc c1 ?_
      | (refine Ze ?_; clear hK K)
      | refine W_reg fun K hK => ?_
      | refine W_drwR rfl mixed (by decide +kernel) fun K hK => ?_
      | refine W_drw mixed (by decide +kernel) fun K hK => ?_
      | (refine Zb ?_ ?_ <;> intro hb <;> first | (simp (disch := omega) only [go_sem, zz1] at hb; done) | (simp (disch := omega) only [go_sem, zz1] at hb; try omega) | try omega)
      | (refine Zl ?_; intro bn hnil; (try simp (disch := omega) only [go_sem, zz1] at hnil); dsimp only [putT, List.set_cons_succ, List.set_cons_zero])
    exact Zrf
  · have c1 := swr_F d1 N (m - i) m j k5 (by omega) (by omega) hn 0
    rw [← rot_left (by omega) (by omega) h] at k6
    have w3 : (i : Int) - (j : Int) = ((i - j : Nat) : Int) := by omega
    have zz1 := w1
    have zz2 := w3
    repeat' first
      | refine Z2 ?_
      | refine Zx ?_
      | refine Zfc c1 ?_
      | (refine Ze ?_; clear hK K)
      | refine W_reg fun K hK => ?_
      | refine W_drwR rfl mixed (by decide +kernel) fun K hK => ?_
      | refine W_drw mixed (by decide +kernel) fun K hK => ?_
      | (refine Zb ?_ ?_ <;> intro hb <;> first | (simp (disch := omega) only [go_sem, zz1, zz2] at hb; done) | (simp (disch := omega) only [go_sem, zz1, zz2] at hb; try omega) | try omega)
      | (refine Zl ?_; intro bn hnil; (try simp (disch := omega) only [go_sem, zz1, zz2] at hnil); dsimp only [putT, List.set_cons_succ, List.set_cons_zero])
    exact L_next ⟨(i - j, j, swrL (m - i) m j 0 d1), by simp only []; omega, ⟨by simp only []; omega, by simp only []; omega, by simp only []; omega, by simp only []; omega, by rw [swrL_size _ _ _ _ _ _ rfl]; exact k5, k6⟩, (by exact weak_mk wkD wkH wkN wkM (by omega))⟩

theorem rot_F (d : Array TTicket) (N a m b : Nat) (hN : d.size = N) (h1 : a < m) (h2 : m < b) (hb : b ≤ N) (hn : N ≤ 4294967296) (A : Nat) : FCall Try.prog 122 [.ref A N 0 N false N, .int .i64 a, .int .i64 m, .int .i64 b, .func (.func 114) [] []] [(A, .arr 5 (rws d.toList))]
    (.tuple []) [(A, .arr 5 (rws (rotA d a m b).toList))] := by
  subst hN
  exact FCall.arr (rot_ok d a m b h1 h2 hb hn) A (by simp [lfA_leaf, lf_ref, lf_int, lf_fn]) (lfA_tup _ _ (by simp)) rfl rfl

end Go.Proofs.Ytdgjelfeclgolaa
