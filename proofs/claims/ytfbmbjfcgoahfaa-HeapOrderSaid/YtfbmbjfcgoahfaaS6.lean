/-
  slices.SortFunc at a struct: the partition; walked. From a template.
-/
import Derived.Test.YtfbmbjfcgoahfaaS5
namespace Go.Proofs.Ytfbmbjfcgoahfaa
open Go Go.AM
set_option maxHeartbeats 8000000
set_option maxRecDepth 8000
set_option linter.unusedSimpArgs false
set_option linter.unusedVariables false

section
variable {c : TItem → TItem → Int}

/-- The loop of the partition: what is left when it is begun. -/
theorem par_ok (hc : CmpOk 50 c) (d : Array TItem) (a b p : Nat) (ha : a ≤ p) (hp : p < b) (hb : b ≤ d.size) (hn : d.size ≤ 4294967296) : HCall Try.prog 61 [.ref 0 d.size 0 d.size false d.size, .int .i64 a, .int .i64 b, .int .i64 p, .func (.func 50) [] []] [(0, .arr 2 (rws d.toList))] 1
    (fun r h _ => r = .tuple [.int .i64 (Sort.partition (ltC c) d a b p).1, .bool (Sort.partition (ltC c) d a b p).2.1] ∧ h = [(0, .arr 2 (rws (Sort.partition (ltC c) d a b p).2.2.toList))]) := by
  obtain ⟨R, hR⟩ : ∃ R, Sort.partition (ltC c) d a b p = R := ⟨_, rfl⟩
  rw [hR]
  unfold Sort.partition at hR
  have hl0 := srl d
  generalize hN : d.size = N at *
  have x1 := sget d (i := a) (by omega)
  have x2 := sget d (i := p) (by omega)
  have e1 := sset d a d[p]!
  have e2 := ssw d a p
  have e3 := ssz d a d[p]!
  rw [hN] at e3
  have x3 := sget (d.setIfInBounds a d[p]!) (i := p) (by simp; omega)
  have u0 : (b : Int) - 1 = ((b - 1 : Nat) : Int) := by omega
  have u9 : (a : Int) + 1 = ((a + 1 : Nat) : Int) := by omega
  simp only [enc_TItem] at e1 e2
  refine HCall_intro (c := Try.f61.body.getD .skip) Try.func61 rfl (by decide +kernel) (W_start ?_)
  simp only [Try.f61, go_sem]
  have zz1 := x1
  have zz2 := x2
  have zz3 := e1
  have zz4 := e2
  have zz5 := e3
  have zz6 := x3
  have zz7 := hl0
  have zz8 := u0
  have zz9 := u9
  repeat' first
    | refine Z9 ?_
    | refine Zx ?_
    | (refine Ze ?_; clear hK K)
    | refine W_reg fun K hK => ?_
    | refine W_drwR rfl mixed (by decide +kernel) fun K hK => ?_
    | refine W_drw mixed (by decide +kernel) fun K hK => ?_
    | (refine Zb ?_ ?_ <;> intro hb <;> first | (simp (disch := omega) only [go_sem, zz1, zz2, zz3, zz4, zz5, zz6, zz7, zz8, zz9] at hb; done) | (simp (disch := omega) only [go_sem, zz1, zz2, zz3, zz4, zz5, zz6, zz7, zz8, zz9] at hb; try omega) | try omega)
    | (refine Zl ?_; intro bn hnil; (try simp (disch := omega) only [go_sem, zz1, zz2, zz3, zz4, zz5, zz6, zz7, zz8, zz9] at hnil); dsimp only [putT, List.set_cons_succ, List.set_cons_zero])
  obtain ⟨d1, hd1⟩ : ∃ d1, Sort.swp d a p = d1 := ⟨_, rfl⟩
  have h4 : d1.size = N := by rw [← hd1, Sort.size_swp]; exact hN
  have hl1 := srl d1
  rw [h4] at hl1
  simp only [hd1] at hR ⊢
  obtain ⟨i, hi⟩ : ∃ i, a + 1 = i := ⟨_, rfl⟩
  obtain ⟨j, hj0⟩ : ∃ j, b - 1 = j := ⟨_, rfl⟩
  rw [hi, hj0] at hR ⊢
  have h1 : a < i := by omega
  have h2 : i ≤ j + 1 := by omega
  have h3 : j < b := by omega
  have h5 := hR
  obtain ⟨i2, hi2⟩ : ∃ i2, Sort.scanUp (fun x => ltC c x d1[a]!) d1 j i = i2 := ⟨_, rfl⟩
  rw [hi2] at h5
  have y0 := sget d1 (i := a) (by omega)
  repeat' first
    | refine Z0 ?_
    | refine Zx ?_
    | (refine Ze ?_; clear hK K)
    | refine W_reg fun K hK => ?_
    | refine W_drwR rfl mixed (by decide +kernel) fun K hK => ?_
    | refine W_drw mixed (by decide +kernel) fun K hK => ?_
    | (refine Zb ?_ ?_ <;> intro hb <;> first | (simp (disch := omega) only [go_sem] at hb; done) | (simp (disch := omega) only [go_sem] at hb; try omega) | try omega)
    | (refine Zl ?_; intro bn hnil; (try simp (disch := omega) only [go_sem] at hnil); dsimp only [putT, List.set_cons_succ, List.set_cons_zero])
  have b1 := Sort.scanUp_spec (fun x => ltC c x d1[a]!) d1 j _ i rfl
  rw [hi2] at b1
  refine W_foldJ (fun (i' : Nat) => [none, none, none, none, none, none, none, none, none, none, none, none, some (.int .i64 i'), none, none, none, none, none, none, none, none, none, none, none, none, none, none, none, none, none, none, none, some .junk, some .junk, some .junk, some .junk, some .junk, some .junk, some .junk, some .junk, some .junk, some .junk, some .junk, some .junk, some .junk, some .junk, some .junk, some .junk, some .junk, some .junk]) (fun _ => [(0, .arr 2 (rws d1.toList))]) (fun i' => i ≤ i' ∧ i' ≤ j + 1 ∧ Sort.scanUp (fun x => ltC c x d1[a]!) d1 j i' = i2) (fun i' => j + 1 - i')
    (fun (_ : Unit) => [none, none, none, none, none, none, none, none, none, none, none, none, some (.int .i64 i2), none, none, none, none, none, none, none, none, none, none, none, none, none, none, none, none, none, none, none, some .junk, some .junk, some .junk, some .junk, some .junk, some .junk, some .junk, some .junk, some .junk, some .junk, some .junk, some .junk, some .junk, some .junk, some .junk, some .junk, some .junk, some .junk]) (fun _ => [(0, .arr 2 (rws d1.toList))]) (fun _ => True) i ⟨Nat.le_refl _, h2, hi2⟩ (by exact weak_mk wkD wkH wkN wkM (by omega)) ?_ ?_
  rotate_left
  · rintro i' ⟨k1, k2, k3⟩
    simp only [msk_none, msk_some, msk_nil]
    rw [Sort.scanUp] at k3
    by_cases hs : i' ≤ j ∧ c d1[i']! d1[a]! < 0
    · have y1 := sget d1 (i := i') (by omega)
      have c1 := hc d1[i']! d1[a]!
      have hs2 := hs.2
      rw [if_pos (by simp [hs.1, hs.2])] at k3
      have zz1 := y0
      have zz2 := y1
      have zz3 := hl1
      repeat' first
        | refine Z3 ?_
        | refine Zc c1 ?_
        | (refine Ze ?_; clear hK K)
        | refine W_reg fun K hK => ?_
        | refine W_drwR rfl mixed (by decide +kernel) fun K hK => ?_
        | refine W_drw mixed (by decide +kernel) fun K hK => ?_
        | (refine Zb ?_ ?_ <;> intro hb <;> first | (simp (disch := omega) only [go_sem, zz1, zz2, zz3] at hb; done) | (simp (disch := omega) only [go_sem, zz1, zz2, zz3] at hb; try omega) | try omega)
        | (refine Zl ?_; intro bn hnil; (try simp (disch := omega) only [go_sem, zz1, zz2, zz3] at hnil); dsimp only [putT, List.set_cons_succ, List.set_cons_zero])
      all_goals exact F_next ⟨i' + 1, by omega, ⟨by omega, by omega, k3⟩, (by exact weak_mk wkD wkH wkN wkM (by omega))⟩
    · rw [if_neg (by simpa using hs)] at k3
      subst k3
      by_cases hj : i' ≤ j
      · have y1 := sget d1 (i := i') (by omega)
        have c1 := hc d1[i']! d1[a]!
        have hs2 : ¬ c d1[i']! d1[a]! < 0 := fun h => hs ⟨hj, h⟩
        have zz1 := y0
        have zz2 := y1
        have zz3 := hl1
        repeat' first
          | refine Z3 ?_
          | refine Zc c1 ?_
          | (refine Ze ?_; clear hK K)
          | refine W_reg fun K hK => ?_
          | refine W_drwR rfl mixed (by decide +kernel) fun K hK => ?_
          | refine W_drw mixed (by decide +kernel) fun K hK => ?_
          | (refine Zb ?_ ?_ <;> intro hb <;> first | (simp (disch := omega) only [go_sem, zz1, zz2, zz3] at hb; done) | (simp (disch := omega) only [go_sem, zz1, zz2, zz3] at hb; try omega) | try omega)
          | (refine Zl ?_; intro bn hnil; (try simp (disch := omega) only [go_sem, zz1, zz2, zz3] at hnil); dsimp only [putT, List.set_cons_succ, List.set_cons_zero])
        all_goals exact FJ_exit () trivial (by exact weak_mk wkD wkH wkN wkM (by omega))
      · repeat' first
          | refine Z0 ?_
          | (refine Ze ?_; clear hK K)
          | refine W_reg fun K hK => ?_
          | refine W_drwR rfl mixed (by decide +kernel) fun K hK => ?_
          | refine W_drw mixed (by decide +kernel) fun K hK => ?_
          | (refine Zb ?_ ?_ <;> intro hb <;> first | (simp (disch := omega) only [go_sem] at hb; done) | (simp (disch := omega) only [go_sem] at hb; try omega) | try omega)
          | (refine Zl ?_; intro bn hnil; (try simp (disch := omega) only [go_sem] at hnil); dsimp only [putT, List.set_cons_succ, List.set_cons_zero])
        all_goals exact FJ_exit () trivial (by exact weak_mk wkD wkH wkN wkM (by omega))
  rintro ⟨⟩ _
  simp only [msk_none, msk_some, msk_nil]
  obtain ⟨j2, hj2⟩ : ∃ j2, Sort.scanDown (fun x => !ltC c x d1[a]!) d1 i2 j = j2 := ⟨_, rfl⟩
  rw [hj2] at h5
  have b2 := Sort.scanDown_spec (fun x => !ltC c x d1[a]!) d1 i2 j
  rw [hj2] at b2
  repeat' first
    | refine Z0 ?_
    | refine Zx ?_
    | (refine Ze ?_; clear hK K)
    | refine W_reg fun K hK => ?_
    | refine W_drwR rfl mixed (by decide +kernel) fun K hK => ?_
    | refine W_drw mixed (by decide +kernel) fun K hK => ?_
    | (refine Zb ?_ ?_ <;> intro hb <;> first | (simp (disch := omega) only [go_sem] at hb; done) | (simp (disch := omega) only [go_sem] at hb; try omega) | try omega)
    | (refine Zl ?_; intro bn hnil; (try simp (disch := omega) only [go_sem] at hnil); dsimp only [putT, List.set_cons_succ, List.set_cons_zero])
  refine W_foldJ (fun (j' : Nat) => [none, none, none, none, none, none, none, none, none, none, none, none, none, some (.int .i64 j'), none, none, none, none, none, none, none, none, none, none, none, none, none, none, none, none, none, none, none, none, none, none, none, none, none, none, none, none, none, none, none, none, none, none, none, none, some .junk, some .junk, some .junk, some .junk, some .junk, some .junk, some .junk, some .junk, some .junk, some .junk, some .junk, some .junk, some .junk, some .junk, some .junk, some .junk, some .junk, some .junk, some .junk]) (fun _ => [(0, .arr 2 (rws d1.toList))]) (fun j' => i2 ≤ j' + 1 ∧ j' ≤ j ∧ Sort.scanDown (fun x => !ltC c x d1[a]!) d1 i2 j' = j2) (fun j' => j')
    (fun (_ : Unit) => [none, none, none, none, none, none, none, none, none, none, none, none, none, some (.int .i64 j2), none, none, none, none, none, none, none, none, none, none, none, none, none, none, none, none, none, none, none, none, none, none, none, none, none, none, none, none, none, none, none, none, none, none, none, none, some .junk, some .junk, some .junk, some .junk, some .junk, some .junk, some .junk, some .junk, some .junk, some .junk, some .junk, some .junk, some .junk, some .junk, some .junk, some .junk, some .junk, some .junk, some .junk]) (fun _ => [(0, .arr 2 (rws d1.toList))]) (fun _ => True) j ⟨b1.2.1 h2, Nat.le_refl _, hj2⟩ (by exact weak_mk wkD wkH wkN wkM (by omega)) ?_ ?_
  rotate_left
  · rintro j' ⟨k1, k2, k3⟩
    simp only [msk_none, msk_some, msk_nil]
    by_cases hs : i2 ≤ j' ∧ ¬ c d1[j']! d1[a]! < 0
    · obtain ⟨m, rfl⟩ : ∃ m, j' = m + 1 := ⟨j' - 1, by omega⟩
      have y1 := sget d1 (i := m + 1) (by omega)
      have c1 := hc d1[m + 1]! d1[a]!
      have hs2 := hs.2
      rw [Sort.scanDown, if_pos (by simp [hs.1, hs.2])] at k3
      have u1 : ((m + 1 : Nat) : Int) - 1 = (m : Int) := by omega
      have zz1 := y0
      have zz2 := y1
      have zz3 := hl1
      have zz4 := u1
      repeat' first
        | refine Z4 ?_
        | refine Zc c1 ?_
        | (refine Ze ?_; clear hK K)
        | refine W_reg fun K hK => ?_
        | refine W_drwR rfl mixed (by decide +kernel) fun K hK => ?_
        | refine W_drw mixed (by decide +kernel) fun K hK => ?_
        | (refine Zb ?_ ?_ <;> intro hb <;> first | (simp (disch := omega) only [go_sem, zz1, zz2, zz3, zz4] at hb; done) | (simp (disch := omega) only [go_sem, zz1, zz2, zz3, zz4] at hb; try omega) | try omega)
        | (refine Zl ?_; intro bn hnil; (try simp (disch := omega) only [go_sem, zz1, zz2, zz3, zz4] at hnil); dsimp only [putT, List.set_cons_succ, List.set_cons_zero])
      all_goals exact F_next ⟨m, by omega, ⟨by omega, by omega, k3⟩, (by exact weak_mk wkD wkH wkN wkM (by omega))⟩
    · have k4 : j' = j2 := by
        cases j' with
        | zero => exact k3
        | succ m => rw [Sort.scanDown, if_neg (by simpa using hs)] at k3; exact k3
      subst k4
      by_cases hj : i2 ≤ j'
      · have y1 := sget d1 (i := j') (by omega)
        have c1 := hc d1[j']! d1[a]!
        have hs2 : c d1[j']! d1[a]! < 0 := by
          rcases Int.lt_or_le (c d1[j']! d1[a]!) 0 with h | h
          · exact h
          · exact absurd ⟨hj, by omega⟩ hs
        have zz1 := y0
        have zz2 := y1
        have zz3 := hl1
        repeat' first
          | refine Z3 ?_
          | refine Zc c1 ?_
          | (refine Ze ?_; clear hK K)
          | refine W_reg fun K hK => ?_
          | refine W_drwR rfl mixed (by decide +kernel) fun K hK => ?_
          | refine W_drw mixed (by decide +kernel) fun K hK => ?_
          | (refine Zb ?_ ?_ <;> intro hb <;> first | (simp (disch := omega) only [go_sem, zz1, zz2, zz3] at hb; done) | (simp (disch := omega) only [go_sem, zz1, zz2, zz3] at hb; try omega) | try omega)
          | (refine Zl ?_; intro bn hnil; (try simp (disch := omega) only [go_sem, zz1, zz2, zz3] at hnil); dsimp only [putT, List.set_cons_succ, List.set_cons_zero])
        all_goals exact FJ_exit () trivial (by exact weak_mk wkD wkH wkN wkM (by omega))
      · repeat' first
          | refine Z0 ?_
          | (refine Ze ?_; clear hK K)
          | refine W_reg fun K hK => ?_
          | refine W_drwR rfl mixed (by decide +kernel) fun K hK => ?_
          | refine W_drw mixed (by decide +kernel) fun K hK => ?_
          | (refine Zb ?_ ?_ <;> intro hb <;> first | (simp (disch := omega) only [go_sem] at hb; done) | (simp (disch := omega) only [go_sem] at hb; try omega) | try omega)
          | (refine Zl ?_; intro bn hnil; (try simp (disch := omega) only [go_sem] at hnil); dsimp only [putT, List.set_cons_succ, List.set_cons_zero])
        all_goals exact FJ_exit () trivial (by exact weak_mk wkD wkH wkN wkM (by omega))
  rintro ⟨⟩ _
  simp only [msk_none, msk_some, msk_nil]
  have b11 := b1.1
  have b21 := b2.1
  by_cases hij : i2 > j2
  · rw [if_pos hij] at h5
    have y2 := sget d1 (i := j2) (by omega)
    have g1 := sset d1 j2 d1[a]!
    have g2 := ssw d1 j2 a
    have g3 := ssz d1 j2 d1[a]!
    rw [h4] at g3
    have x4 := sget (d1.setIfInBounds j2 d1[a]!) (i := a) (by simp; omega)
    simp only [enc_TItem] at g1 g2
    subst h5
    have zz1 := y0
    have zz2 := y2
    have zz3 := g1
    have zz4 := g2
    have zz5 := g3
    have zz6 := x4
    have zz7 := hl1
    repeat' first
      | refine Z7 ?_
      | refine Zx ?_
      | (refine Ze ?_; clear hK K)
      | refine W_reg fun K hK => ?_
      | refine W_drwR rfl mixed (by decide +kernel) fun K hK => ?_
      | refine W_drw mixed (by decide +kernel) fun K hK => ?_
      | (refine Zb ?_ ?_ <;> intro hb <;> first | (simp (disch := omega) only [go_sem, zz1, zz2, zz3, zz4, zz5, zz6, zz7] at hb; done) | (simp (disch := omega) only [go_sem, zz1, zz2, zz3, zz4, zz5, zz6, zz7] at hb; try omega) | try omega)
      | (refine Zl ?_; intro bn hnil; (try simp (disch := omega) only [go_sem, zz1, zz2, zz3, zz4, zz5, zz6, zz7] at hnil); dsimp only [putT, List.set_cons_succ, List.set_cons_zero])
    exact Zrf
  · rw [if_neg hij] at h5
    have hne : i2 ≠ j2 := fun e => by
      have q1 := b1.2.2.2 (by omega)
      have q2 := b2.2.2.2 (by omega) (by omega)
      rw [← e] at q2
      simp only [q1, Bool.not_false] at q2
      cases q2
    have y1 := sget d1 (i := i2) (by omega)
    have y2 := sget d1 (i := j2) (by omega)
    have g1 := sset d1 i2 d1[j2]!
    have g2 := ssw d1 i2 j2
    have g3 := ssz d1 i2 d1[j2]!
    rw [h4] at g3
    have x4 := sget (d1.setIfInBounds i2 d1[j2]!) (i := j2) (by simp; omega)
    have u1 : (j2 : Int) - 1 = ((j2 - 1 : Nat) : Int) := by omega
    have u2 : (i2 : Int) + 1 = ((i2 + 1 : Nat) : Int) := by omega
    simp only [enc_TItem] at g1 g2
    have zz1 := y1
    have zz2 := y2
    have zz3 := g1
    have zz4 := g2
    have zz5 := g3
    have zz6 := x4
    have zz7 := hl1
    have zz8 := u1
    have zz9 := u2
    repeat' first
      | refine Z9 ?_
      | refine Zx ?_
      | (refine Ze ?_; clear hK K)
      | refine W_reg fun K hK => ?_
      | refine W_drwR rfl mixed (by decide +kernel) fun K hK => ?_
      | refine W_drw mixed (by decide +kernel) fun K hK => ?_
      | (refine Zb ?_ ?_ <;> intro hb <;> first | (simp (disch := omega) only [go_sem, zz1, zz2, zz3, zz4, zz5, zz6, zz7, zz8, zz9] at hb; done) | (simp (disch := omega) only [go_sem, zz1, zz2, zz3, zz4, zz5, zz6, zz7, zz8, zz9] at hb; try omega) | try omega)
      | (refine Zl ?_; intro bn hnil; (try simp (disch := omega) only [go_sem, zz1, zz2, zz3, zz4, zz5, zz6, zz7, zz8, zz9] at hnil); dsimp only [putT, List.set_cons_succ, List.set_cons_zero])
    have hsz2 : (Sort.swp d1 i2 j2).size = N := by rw [Sort.size_swp]; exact h4
    clear e1 e2 e3 x1 x2 x3 x4 y0 y1 y2 g1 g2 g3 b1 b2 hi2 hj2 u1 u2 h4 hl1
    obtain ⟨Q, hQ⟩ : ∃ Q, Sort.partLoop (ltC c) a (i2 + 1) (j2 - 1) (Sort.swp d1 i2 j2) = Q := ⟨_, rfl⟩
    rw [hQ] at h5
    refine W_foldJ (fun (q : Nat × Nat × Array TItem) => [none, none, none, none, none, none, none, none, none, none, none, none, some (.int .i64 q.1), some (.int .i64 q.2.1), none, none, none, none, none, none, none, none, none, none, none, none, none, none, none, none, none, none, none, none, none, none, none, none, none, none, none, none, none, none, none, none, none, none, none, none, none, none, none, none, none, none, none, none, none, none, none, none, none, none, none, none, none, none, none, none, none, none, none, none, none, none, none, none, none, none, none, none, none, none, none, none, none, none, none, none, none, none, none, none, none, none, none, none, none, none, none, none, none, none, none, some .junk, some .junk, some .junk, some .junk, some .junk, some .junk, some .junk, some .junk, some .junk, some .junk, some .junk, some .junk, some .junk, some .junk, some .junk, some .junk, some .junk, some .junk, some .junk, some .junk, some .junk, some .junk, some .junk, some .junk, some .junk, some .junk, some .junk, some .junk, some .junk, some .junk, some .junk, some .junk, some .junk, some .junk, some .junk, some .junk, some .junk, some .junk, some .junk, some .junk, some .junk, some .junk, some .junk, some .junk, some .junk, some .junk, some .junk, some .junk, some .junk, some .junk, some .junk, some .junk, some .junk, some .junk, some .junk, some .junk, some .junk, some .junk]) (fun q => [(0, .arr 2 (rws q.2.2.toList))])
      (fun q => a < q.1 ∧ q.1 ≤ q.2.1 + 1 ∧ q.2.1 < b ∧ q.2.2.size = N ∧ Sort.partLoop (ltC c) a q.1 q.2.1 q.2.2 = Q) (fun q => q.2.1 + 1 - q.1)
      (fun (_ : Unit) => [none, none, none, none, none, none, none, none, none, none, none, none, some .junk, some (.int .i64 Q.1), none, none, none, none, none, none, none, none, none, none, none, none, none, none, none, none, none, none, none, none, none, none, none, none, none, none, none, none, none, none, none, none, none, none, none, none, none, none, none, none, none, none, none, none, none, none, none, none, none, none, none, none, none, none, none, none, none, none, none, none, none, none, none, none, none, none, none, none, none, none, none, none, none, none, none, none, none, none, none, none, none, none, none, none, none, none, none, none, none, none, none, some .junk, some .junk, some .junk, some .junk, some .junk, some .junk, some .junk, some .junk, some .junk, some .junk, some .junk, some .junk, some .junk, some .junk, some .junk, some .junk, some .junk, some .junk, some .junk, some .junk, some .junk, some .junk, some .junk, some .junk, some .junk, some .junk, some .junk, some .junk, some .junk, some .junk, some .junk, some .junk, some .junk, some .junk, some .junk, some .junk, some .junk, some .junk, some .junk, some .junk, some .junk, some .junk, some .junk, some .junk, some .junk, some .junk, some .junk, some .junk, some .junk, some .junk, some .junk, some .junk, some .junk, some .junk, some .junk, some .junk, some .junk, some .junk]) (fun _ => [(0, .arr 2 (rws Q.2.toList))]) (fun _ => Q.1 < b ∧ Q.2.size = N) (i2 + 1, j2 - 1, Sort.swp d1 i2 j2) ⟨by simp only []; omega, by simp only []; omega, by simp only []; omega, hsz2, hQ⟩ (by exact weak_mk wkD wkH wkN wkM (by omega)) ?_ ?_
    rotate_left
    · clear h5 b11 b21 h1 h2 h3 hR
      rintro ⟨i, j, d1⟩ ⟨h1, h2, h3, h4, h5⟩
      simp only [] at h1 h2 h3 h4 h5
      simp only [msk_none, msk_some, msk_nil]
      have hl1 := srl d1
      rw [h4] at hl1
      rw [Sort.partLoop_eq] at h5
      obtain ⟨i2, hi2⟩ : ∃ i2, Sort.scanUp (fun x => ltC c x d1[a]!) d1 j i = i2 := ⟨_, rfl⟩
      rw [hi2] at h5
      have y0 := sget d1 (i := a) (by omega)
      repeat' first
        | refine Z0 ?_
        | refine Zx ?_
        | (refine Ze ?_; clear hK K)
        | refine W_reg fun K hK => ?_
        | refine W_drwR rfl mixed (by decide +kernel) fun K hK => ?_
        | refine W_drw mixed (by decide +kernel) fun K hK => ?_
        | (refine Zb ?_ ?_ <;> intro hb <;> first | (simp (disch := omega) only [go_sem] at hb; done) | (simp (disch := omega) only [go_sem] at hb; try omega) | try omega)
        | (refine Zl ?_; intro bn hnil; (try simp (disch := omega) only [go_sem] at hnil); dsimp only [putT, List.set_cons_succ, List.set_cons_zero])
      have b1 := Sort.scanUp_spec (fun x => ltC c x d1[a]!) d1 j _ i rfl
      rw [hi2] at b1
      refine W_foldJ (fun (i' : Nat) => [none, none, none, none, none, none, none, none, none, none, none, none, some (.int .i64 i'), none, none, none, none, none, none, none, none, none, none, none, none, none, none, none, none, none, none, none, none, none, none, none, none, none, none, none, none, none, none, none, none, none, none, none, none, none, none, none, none, none, none, none, none, none, none, none, none, none, none, none, none, none, none, none, none, none, none, none, none, none, none, none, none, none, none, none, none, none, none, none, none, none, none, none, none, none, none, none, none, none, none, none, none, none, none, none, none, none, none, none, none, some .junk, some .junk, some .junk, some .junk, some .junk, some .junk, some .junk, some .junk, some .junk, some .junk, some .junk, some .junk, some .junk, some .junk, some .junk, some .junk, some .junk, some .junk]) (fun _ => [(0, .arr 2 (rws d1.toList))]) (fun i' => i ≤ i' ∧ i' ≤ j + 1 ∧ Sort.scanUp (fun x => ltC c x d1[a]!) d1 j i' = i2) (fun i' => j + 1 - i')
        (fun (_ : Unit) => [none, none, none, none, none, none, none, none, none, none, none, none, some (.int .i64 i2), none, none, none, none, none, none, none, none, none, none, none, none, none, none, none, none, none, none, none, none, none, none, none, none, none, none, none, none, none, none, none, none, none, none, none, none, none, none, none, none, none, none, none, none, none, none, none, none, none, none, none, none, none, none, none, none, none, none, none, none, none, none, none, none, none, none, none, none, none, none, none, none, none, none, none, none, none, none, none, none, none, none, none, none, none, none, none, none, none, none, none, none, some .junk, some .junk, some .junk, some .junk, some .junk, some .junk, some .junk, some .junk, some .junk, some .junk, some .junk, some .junk, some .junk, some .junk, some .junk, some .junk, some .junk, some .junk]) (fun _ => [(0, .arr 2 (rws d1.toList))]) (fun _ => True) i ⟨Nat.le_refl _, h2, hi2⟩ (by exact weak_mk wkD wkH wkN wkM (by omega)) ?_ ?_
      rotate_left
      · rintro i' ⟨k1, k2, k3⟩
        simp only [msk_none, msk_some, msk_nil]
        rw [Sort.scanUp] at k3
        by_cases hs : i' ≤ j ∧ c d1[i']! d1[a]! < 0
        · have y1 := sget d1 (i := i') (by omega)
          have c1 := hc d1[i']! d1[a]!
          have hs2 := hs.2
          rw [if_pos (by simp [hs.1, hs.2])] at k3
          have zz1 := y0
          have zz2 := y1
          have zz3 := hl1
          repeat' first
            | refine Z3 ?_
            | refine Zc c1 ?_
            | (refine Ze ?_; clear hK K)
            | refine W_reg fun K hK => ?_
            | refine W_drwR rfl mixed (by decide +kernel) fun K hK => ?_
            | refine W_drw mixed (by decide +kernel) fun K hK => ?_
            | (refine Zb ?_ ?_ <;> intro hb <;> first | (simp (disch := omega) only [go_sem, zz1, zz2, zz3] at hb; done) | (simp (disch := omega) only [go_sem, zz1, zz2, zz3] at hb; try omega) | try omega)
            | (refine Zl ?_; intro bn hnil; (try simp (disch := omega) only [go_sem, zz1, zz2, zz3] at hnil); dsimp only [putT, List.set_cons_succ, List.set_cons_zero])
          all_goals exact F_next ⟨i' + 1, by omega, ⟨by omega, by omega, k3⟩, (by exact weak_mk wkD wkH wkN wkM (by omega))⟩
        · rw [if_neg (by simpa using hs)] at k3
          subst k3
          by_cases hj : i' ≤ j
          · have y1 := sget d1 (i := i') (by omega)
            have c1 := hc d1[i']! d1[a]!
            have hs2 : ¬ c d1[i']! d1[a]! < 0 := fun h => hs ⟨hj, h⟩
            have zz1 := y0
            have zz2 := y1
            have zz3 := hl1
            repeat' first
              | refine Z3 ?_
              | refine Zc c1 ?_
              | (refine Ze ?_; clear hK K)
              | refine W_reg fun K hK => ?_
              | refine W_drwR rfl mixed (by decide +kernel) fun K hK => ?_
              | refine W_drw mixed (by decide +kernel) fun K hK => ?_
              | (refine Zb ?_ ?_ <;> intro hb <;> first | (simp (disch := omega) only [go_sem, zz1, zz2, zz3] at hb; done) | (simp (disch := omega) only [go_sem, zz1, zz2, zz3] at hb; try omega) | try omega)
              | (refine Zl ?_; intro bn hnil; (try simp (disch := omega) only [go_sem, zz1, zz2, zz3] at hnil); dsimp only [putT, List.set_cons_succ, List.set_cons_zero])
            all_goals exact FJ_exit () trivial (by exact weak_mk wkD wkH wkN wkM (by omega))
          · repeat' first
              | refine Z0 ?_
              | (refine Ze ?_; clear hK K)
              | refine W_reg fun K hK => ?_
              | refine W_drwR rfl mixed (by decide +kernel) fun K hK => ?_
              | refine W_drw mixed (by decide +kernel) fun K hK => ?_
              | (refine Zb ?_ ?_ <;> intro hb <;> first | (simp (disch := omega) only [go_sem] at hb; done) | (simp (disch := omega) only [go_sem] at hb; try omega) | try omega)
              | (refine Zl ?_; intro bn hnil; (try simp (disch := omega) only [go_sem] at hnil); dsimp only [putT, List.set_cons_succ, List.set_cons_zero])
            all_goals exact FJ_exit () trivial (by exact weak_mk wkD wkH wkN wkM (by omega))
      rintro ⟨⟩ _
      simp only [msk_none, msk_some, msk_nil]
      obtain ⟨j2, hj2⟩ : ∃ j2, Sort.scanDown (fun x => !ltC c x d1[a]!) d1 i2 j = j2 := ⟨_, rfl⟩
      rw [hj2] at h5
      have b2 := Sort.scanDown_spec (fun x => !ltC c x d1[a]!) d1 i2 j
      rw [hj2] at b2
      repeat' first
        | refine Z0 ?_
        | refine Zx ?_
        | (refine Ze ?_; clear hK K)
        | refine W_reg fun K hK => ?_
        | refine W_drwR rfl mixed (by decide +kernel) fun K hK => ?_
        | refine W_drw mixed (by decide +kernel) fun K hK => ?_
        | (refine Zb ?_ ?_ <;> intro hb <;> first | (simp (disch := omega) only [go_sem] at hb; done) | (simp (disch := omega) only [go_sem] at hb; try omega) | try omega)
        | (refine Zl ?_; intro bn hnil; (try simp (disch := omega) only [go_sem] at hnil); dsimp only [putT, List.set_cons_succ, List.set_cons_zero])
      refine W_foldJ (fun (j' : Nat) => [none, none, none, none, none, none, none, none, none, none, none, none, none, some (.int .i64 j'), none, none, none, none, none, none, none, none, none, none, none, none, none, none, none, none, none, none, none, none, none, none, none, none, none, none, none, none, none, none, none, none, none, none, none, none, none, none, none, none, none, none, none, none, none, none, none, none, none, none, none, none, none, none, none, none, none, none, none, none, none, none, none, none, none, none, none, none, none, none, none, none, none, none, none, none, none, none, none, none, none, none, none, none, none, none, none, none, none, none, none, none, none, none, none, none, none, none, none, none, none, none, none, none, none, none, none, none, none, some .junk, some .junk, some .junk, some .junk, some .junk, some .junk, some .junk, some .junk, some .junk, some .junk, some .junk, some .junk, some .junk, some .junk, some .junk, some .junk, some .junk, some .junk, some .junk]) (fun _ => [(0, .arr 2 (rws d1.toList))]) (fun j' => i2 ≤ j' + 1 ∧ j' ≤ j ∧ Sort.scanDown (fun x => !ltC c x d1[a]!) d1 i2 j' = j2) (fun j' => j')
        (fun (_ : Unit) => [none, none, none, none, none, none, none, none, none, none, none, none, none, some (.int .i64 j2), none, none, none, none, none, none, none, none, none, none, none, none, none, none, none, none, none, none, none, none, none, none, none, none, none, none, none, none, none, none, none, none, none, none, none, none, none, none, none, none, none, none, none, none, none, none, none, none, none, none, none, none, none, none, none, none, none, none, none, none, none, none, none, none, none, none, none, none, none, none, none, none, none, none, none, none, none, none, none, none, none, none, none, none, none, none, none, none, none, none, none, none, none, none, none, none, none, none, none, none, none, none, none, none, none, none, none, none, none, some .junk, some .junk, some .junk, some .junk, some .junk, some .junk, some .junk, some .junk, some .junk, some .junk, some .junk, some .junk, some .junk, some .junk, some .junk, some .junk, some .junk, some .junk, some .junk]) (fun _ => [(0, .arr 2 (rws d1.toList))]) (fun _ => True) j ⟨b1.2.1 h2, Nat.le_refl _, hj2⟩ (by exact weak_mk wkD wkH wkN wkM (by omega)) ?_ ?_
      rotate_left
      · rintro j' ⟨k1, k2, k3⟩
        simp only [msk_none, msk_some, msk_nil]
        by_cases hs : i2 ≤ j' ∧ ¬ c d1[j']! d1[a]! < 0
        · obtain ⟨m, rfl⟩ : ∃ m, j' = m + 1 := ⟨j' - 1, by omega⟩
          have y1 := sget d1 (i := m + 1) (by omega)
          have c1 := hc d1[m + 1]! d1[a]!
          have hs2 := hs.2
          rw [Sort.scanDown, if_pos (by simp [hs.1, hs.2])] at k3
          have u1 : ((m + 1 : Nat) : Int) - 1 = (m : Int) := by omega
          have zz1 := y0
          have zz2 := y1
          have zz3 := hl1
          have zz4 := u1
          repeat' first
            | refine Z4 ?_
            | refine Zc c1 ?_
            | (refine Ze ?_; clear hK K)
            | refine W_reg fun K hK => ?_
            | refine W_drwR rfl mixed (by decide +kernel) fun K hK => ?_
            | refine W_drw mixed (by decide +kernel) fun K hK => ?_
            | (refine Zb ?_ ?_ <;> intro hb <;> first | (simp (disch := omega) only [go_sem, zz1, zz2, zz3, zz4] at hb; done) | (simp (disch := omega) only [go_sem, zz1, zz2, zz3, zz4] at hb; try omega) | try omega)
            | (refine Zl ?_; intro bn hnil; (try simp (disch := omega) only [go_sem, zz1, zz2, zz3, zz4] at hnil); dsimp only [putT, List.set_cons_succ, List.set_cons_zero])
          all_goals exact F_next ⟨m, by omega, ⟨by omega, by omega, k3⟩, (by exact weak_mk wkD wkH wkN wkM (by omega))⟩
        · have k4 : j' = j2 := by
            cases j' with
            | zero => exact k3
            | succ m => rw [Sort.scanDown, if_neg (by simpa using hs)] at k3; exact k3
          subst k4
          by_cases hj : i2 ≤ j'
          · have y1 := sget d1 (i := j') (by omega)
            have c1 := hc d1[j']! d1[a]!
            have hs2 : c d1[j']! d1[a]! < 0 := by
              rcases Int.lt_or_le (c d1[j']! d1[a]!) 0 with h | h
              · exact h
              · exact absurd ⟨hj, by omega⟩ hs
            have zz1 := y0
            have zz2 := y1
            have zz3 := hl1
            repeat' first
              | refine Z3 ?_
              | refine Zc c1 ?_
              | (refine Ze ?_; clear hK K)
              | refine W_reg fun K hK => ?_
              | refine W_drwR rfl mixed (by decide +kernel) fun K hK => ?_
              | refine W_drw mixed (by decide +kernel) fun K hK => ?_
              | (refine Zb ?_ ?_ <;> intro hb <;> first | (simp (disch := omega) only [go_sem, zz1, zz2, zz3] at hb; done) | (simp (disch := omega) only [go_sem, zz1, zz2, zz3] at hb; try omega) | try omega)
              | (refine Zl ?_; intro bn hnil; (try simp (disch := omega) only [go_sem, zz1, zz2, zz3] at hnil); dsimp only [putT, List.set_cons_succ, List.set_cons_zero])
            all_goals exact FJ_exit () trivial (by exact weak_mk wkD wkH wkN wkM (by omega))
          · repeat' first
              | refine Z0 ?_
              | (refine Ze ?_; clear hK K)
              | refine W_reg fun K hK => ?_
              | refine W_drwR rfl mixed (by decide +kernel) fun K hK => ?_
              | refine W_drw mixed (by decide +kernel) fun K hK => ?_
              | (refine Zb ?_ ?_ <;> intro hb <;> first | (simp (disch := omega) only [go_sem] at hb; done) | (simp (disch := omega) only [go_sem] at hb; try omega) | try omega)
              | (refine Zl ?_; intro bn hnil; (try simp (disch := omega) only [go_sem] at hnil); dsimp only [putT, List.set_cons_succ, List.set_cons_zero])
            all_goals exact FJ_exit () trivial (by exact weak_mk wkD wkH wkN wkM (by omega))
      rintro ⟨⟩ _
      simp only [msk_none, msk_some, msk_nil]
      have b11 := b1.1
      have b21 := b2.1
      by_cases hij : i2 > j2
      · rw [if_pos hij] at h5
        subst h5
        repeat' first
          | refine Z0 ?_
          | (refine Ze ?_; clear hK K)
          | refine W_reg fun K hK => ?_
          | refine W_drwR rfl mixed (by decide +kernel) fun K hK => ?_
          | refine W_drw mixed (by decide +kernel) fun K hK => ?_
          | (refine Zb ?_ ?_ <;> intro hb <;> first | (simp (disch := omega) only [go_sem] at hb; done) | (simp (disch := omega) only [go_sem] at hb; try omega) | try omega)
          | (refine Zl ?_; intro bn hnil; (try simp (disch := omega) only [go_sem] at hnil); dsimp only [putT, List.set_cons_succ, List.set_cons_zero])
        all_goals exact FJ_exit () ⟨by simp only []; omega, h4⟩ (by exact weak_mk wkD wkH wkN wkM (by omega))
      · rw [if_neg hij] at h5
        have hne : i2 ≠ j2 := fun e => by
          have q1 := b1.2.2.2 (by omega)
          have q2 := b2.2.2.2 (by omega) (by omega)
          rw [← e] at q2
          simp only [q1, Bool.not_false] at q2
          cases q2
        have y1 := sget d1 (i := i2) (by omega)
        have y2 := sget d1 (i := j2) (by omega)
        have g1 := sset d1 i2 d1[j2]!
        have g2 := ssw d1 i2 j2
        have g3 := ssz d1 i2 d1[j2]!
        rw [h4] at g3
        have x4 := sget (d1.setIfInBounds i2 d1[j2]!) (i := j2) (by simp; omega)
        have u1 : (j2 : Int) - 1 = ((j2 - 1 : Nat) : Int) := by omega
        have u2 : (i2 : Int) + 1 = ((i2 + 1 : Nat) : Int) := by omega
        simp only [enc_TItem] at g1 g2
        have zz1 := y1
        have zz2 := y2
        have zz3 := g1
        have zz4 := g2
        have zz5 := g3
        have zz6 := x4
        have zz7 := hl1
        have zz8 := u1
        have zz9 := u2
        repeat' first
          | refine Z9 ?_
          | (refine Ze ?_; clear hK K)
          | refine W_reg fun K hK => ?_
          | refine W_drwR rfl mixed (by decide +kernel) fun K hK => ?_
          | refine W_drw mixed (by decide +kernel) fun K hK => ?_
          | (refine Zb ?_ ?_ <;> intro hb <;> first | (simp (disch := omega) only [go_sem, zz1, zz2, zz3, zz4, zz5, zz6, zz7, zz8, zz9] at hb; done) | (simp (disch := omega) only [go_sem, zz1, zz2, zz3, zz4, zz5, zz6, zz7, zz8, zz9] at hb; try omega) | try omega)
          | (refine Zl ?_; intro bn hnil; (try simp (disch := omega) only [go_sem, zz1, zz2, zz3, zz4, zz5, zz6, zz7, zz8, zz9] at hnil); dsimp only [putT, List.set_cons_succ, List.set_cons_zero])
        all_goals exact F_next ⟨(i2 + 1, j2 - 1, Sort.swp d1 i2 j2), by simp only []; omega, ⟨by simp only []; omega, by simp only []; omega, by simp only []; omega, by rw [Sort.size_swp]; exact h4, h5⟩, (by exact weak_mk wkD wkH wkN wkM (by omega))⟩
    rintro ⟨⟩ ⟨hq1, hq2⟩
    simp only [msk_none, msk_some, msk_nil]
    obtain ⟨jj, dd⟩ := Q
    simp only [] at hq1 hq2 h5 ⊢
    have hl2 := srl dd
    rw [hq2] at hl2
    have y0 := sget dd (i := a) (by omega)
    have y2 := sget dd (i := jj) (by omega)
    have g1 := sset dd jj dd[a]!
    have g2 := ssw dd jj a
    have g3 := ssz dd jj dd[a]!
    rw [hq2] at g3
    have x4 := sget (dd.setIfInBounds jj dd[a]!) (i := a) (by simp; omega)
    simp only [enc_TItem] at g1 g2
    subst h5
    have zz1 := y0
    have zz2 := y2
    have zz3 := g1
    have zz4 := g2
    have zz5 := g3
    have zz6 := x4
    have zz7 := hl2
    repeat' first
      | refine Z7 ?_
      | refine Zx ?_
      | (refine Ze ?_; clear hK K)
      | refine W_reg fun K hK => ?_
      | refine W_drwR rfl mixed (by decide +kernel) fun K hK => ?_
      | refine W_drw mixed (by decide +kernel) fun K hK => ?_
      | (refine Zb ?_ ?_ <;> intro hb <;> first | (simp (disch := omega) only [go_sem, zz1, zz2, zz3, zz4, zz5, zz6, zz7] at hb; done) | (simp (disch := omega) only [go_sem, zz1, zz2, zz3, zz4, zz5, zz6, zz7] at hb; try omega) | try omega)
      | (refine Zl ?_; intro bn hnil; (try simp (disch := omega) only [go_sem, zz1, zz2, zz3, zz4, zz5, zz6, zz7] at hnil); dsimp only [putT, List.set_cons_succ, List.set_cons_zero])
    exact Zrf

end
end Go.Proofs.Ytfbmbjfcgoahfaa
