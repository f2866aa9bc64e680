/-
  Lanes that take turns: the law FairShares; walked.
-/
import Derived.Test.YtdgjelfeclgolaaF17
namespace Go.Proofs.Ytdgjelfeclgolaa
open Go Go.AM
set_option maxHeartbeats 8000000
set_option maxRecDepth 8000
set_option linter.unusedSimpArgs false
set_option linter.unusedVariables false

/-- A lane in which somebody waits is not far from virtual time. -/
theorem inv_near {o g m : Int} {i : Nat} {f : TFair} (inv : Inv o g m i f) (hg : 1 ≤ g ∧ g ≤ 1000) {k : Nat} {l : TLane} (hk : f.lanes[k]? = some l) (hne : l.wait ≠ []) : 0 ≤ l.start ∧ l.start ≤ f.r ∧ f.r ≤ l.start + m * g ∧ f.r ≤ 16000 * i := by
  obtain ⟨t, w, e⟩ := List.exists_cons_of_ne_nil hne
  have h1 := inv.st k l hk
  have h2 := h1.2.2.2 t w e
  have h3 := inv.wd k l t hk (by rw [e]; exact List.mem_cons_self)
  have h4 := Int.mul_le_mul_of_nonneg_right h3.2 (show 0 ≤ g by omega)
  exact ⟨h1.1, h1.2.1, by omega, inv.r1⟩

theorem fairShares_ok (o g : Int) (us : List TTurn) (a b be en : Int) (hl : us.length ≤ maxLen) : PCall Try.prog 9 [.int .i64 o, .int .i64 g, .sl (rws us) none, .int .i64 a, .int .i64 b, .int .i64 be, .int .i64 en] (· = .bool true) := by
  have c0 := awake22_ok
  have c1 := run_ok o g us hl
  have a1 := fnew_ok o g 64
  unfold maxLen at hl
  by_cases hm : mayB o g 64 = true
  · have ho := (mayB_iff o g 64).1 hm
    have e0 : runOut o g us = ((runS (fnew o g 64).1 us (min us.length 300)).2.1, (runS (fnew o g 64).1 us (min us.length 300)).2.2.1, (runS (fnew o g 64).1 us (min us.length 300)).2.2.2, true) := if_pos hm
    rw [e0] at c1
    obtain ⟨hM0, hM1, hM2⟩ := mostS_le us (min us.length 300)
    obtain ⟨i0, i1⟩ := inv_new (m := mostS us (min us.length 300)) hm
    have len := runS_len (fnew o g 64).1 us (min us.length 300) (by omega)
    have get := runS_get (fnew o g 64).1 us (min us.length 300) (by omega)
    have hinv := inv_run (us := us) i0 (by omega) (by omega)
    have hst := fun n u (h : us[n]? = some u) => runS_succ (f0 := (fnew o g 64).1) h
    simp only [runV] at c1
    generalize hS : runS (fnew o g 64).1 us = S at *
    clear hS i0 i1 a1 e0
    generalize hn : min us.length 300 = n at *
    obtain ⟨len, lenB, lenC⟩ := len
    generalize (S n).2.2.1 = B at *
    generalize (S n).2.2.2 = C at *
    generalize (S n).2.1 = A at *
    by_cases hc : 0 ≤ a ∧ 0 ≤ b ∧ a < o ∧ b < o ∧ ¬ a = b ∧ 0 ≤ be ∧ en ≤ n ∧ be < en
    · obtain ⟨k1, k2, k3, k4, k5, k6, k7, k8⟩ := hc
      obtain ⟨a, rfl⟩ : ∃ k : Nat, a = k := ⟨a.toNat, by omega⟩
      obtain ⟨b, rfl⟩ : ∃ k : Nat, b = k := ⟨b.toNat, by omega⟩
      obtain ⟨p, rfl⟩ : ∃ k : Nat, be = k := ⟨be.toNat, by omega⟩
      obtain ⟨q, rfl⟩ : ∃ k : Nat, en = k := ⟨en.toNat, by omega⟩
      obtain ⟨M, hM⟩ : ∃ M, mostS us n = M := ⟨_, rfl⟩
      have e2M : 2 * M * g = 2 * (M * g) := Int.mul_assoc _ _ _
      have hMg : 0 ≤ M * g ∧ M * g ≤ 16000 := by
        rw [hM] at hM0 hM1
        have h1 := Int.mul_nonneg hM0 (show 0 ≤ g by omega)
        have h2 := Int.mul_le_mul hM1 ho.2.2.2.1 (by omega) (by omega)
        omega
      have INV : ∀ j, j ≤ n → Inv o g M j (S j).1 := fun j hj => by
        have := hinv j (by omega) (by omega) fun i u hi hu => hM2 i u (by omega) hu
        rwa [hM] at this
      have near : ∀ j, j ≤ n → ∀ (c : Nat), (c : Int) < o → (laneAt (S j).1 c).wait ≠ [] → 0 ≤ (laneAt (S j).1 c).start ∧ (laneAt (S j).1 c).start ≤ (S j).1.r ∧ (S j).1.r ≤ (laneAt (S j).1 c).start + M * g ∧ (S j).1.r ≤ 16000 * j := fun j hj c hc hne => by
        have h1 := (INV j hj).hl
        exact inv_near (INV j hj) (by omega) (by simpa using laneAt_get (f := (S j).1) (k := (c : Int)) (by omega) (by omega)) hne
      refine PCall_intro (c := Try.f9.body.getD .skip) Try.func9 rfl (by decide +kernel) Zf (W_start ?_)
      simp only [Try.f9, go_sem]
      have zz1 := len
      repeat' first
        | refine Z1 ?_
        | refine Zx ?_
        | refine Zc c0 ?_
        | refine Zc c1 ?_
        | (refine Ze ?_; clear hK K)
        | refine W_reg fun K hK => ?_
        | refine W_drwR rfl mixed (by decide +kernel) fun K hK => ?_
        | refine W_drw mixed (by decide +kernel) fun K hK => ?_
        | (refine Zb ?_ ?_ <;> intro hb <;> first | (simp (disch := omega) only [go_sem, zz1] at hb; done) | (simp (disch := omega) only [go_sem, zz1] at hb; try omega) | try omega)
        | (refine Zl ?_; intro bn hnil; (try simp (disch := omega) only [go_sem, zz1] at hnil); dsimp only [putT, List.set_cons_succ, List.set_cons_zero])
      refine W_foldK (fun (a : Nat × Int) => [none, none, none, none, none, none, none, none, none, none, none, none, none, none, none, none, none, none, none, none, none, some (.int .i64 a.2), some (.int .i64 a.1), none, none, none, none, none, none, none, none, none, none, none, none, none, none, none, none, none, none, none, none, none, none, none, none, none, none, none, none, none, none, none, none, none, none, none, none, none, none, none, none, none, none, none, none, none, none, none, none, none, none, none, none, none, none, none, none, none, none, none, none, some .junk, some .junk, some .junk, some .junk, some .junk, some .junk, some .junk, some .junk, some .junk, some .junk, some .junk, some .junk, some .junk, some .junk, some .junk, some .junk, some .junk, some .junk, some .junk]) (fun a => a.1 ≤ n ∧ a.2 = mostS us a.1) (fun a => n - a.1) (0, 0) ⟨by simp, rfl⟩ (by exact weak_mk wkD wkH wkN wkM (by omega)) ?_
      rintro ⟨i, mo⟩ ⟨hi, hmo⟩
      simp only [] at hi hmo
      simp only [msk_none, msk_some, msk_nil]
      rcases Nat.lt_or_ge i n with h4 | h4
      · obtain ⟨u, hu⟩ := some_of_lt (l := us) (i := i) (by omega)
        have e1 : max mo (min (max u.width 1) 16) = mostS us (i + 1) := by rw [mostS, hu, hmo]; rfl
        have zz1 := rws_get hu
        repeat' first
          | refine Z1 ?_
          | refine Zx ?_
          | (refine Ze ?_; clear hK K)
          | refine W_reg fun K hK => ?_
          | refine W_drwR rfl mixed (by decide +kernel) fun K hK => ?_
          | refine W_drw mixed (by decide +kernel) fun K hK => ?_
          | (refine Zb ?_ ?_ <;> intro hb <;> first | (simp (disch := omega) only [go_sem, zz1] at hb; done) | (simp (disch := omega) only [go_sem, zz1] at hb; try omega) | try omega)
          | (refine Zl ?_; intro bn hnil; (try simp (disch := omega) only [go_sem, zz1] at hnil); dsimp only [putT, List.set_cons_succ, List.set_cons_zero])
        exact L_next ⟨(i + 1, max mo (min (max u.width 1) 16)), by simp; omega, ⟨by simp; omega, e1⟩, (by exact weak_mk wkD wkH wkN wkM (by omega))⟩
      · obtain rfl : i = n := by omega
        rw [hM] at hmo
        subst hmo
        repeat' first
          | refine Z0 ?_
          | refine Zx ?_
          | (refine Ze ?_; clear hK K)
          | refine W_reg fun K hK => ?_
          | refine W_drwR rfl mixed (by decide +kernel) fun K hK => ?_
          | refine W_drw mixed (by decide +kernel) fun K hK => ?_
          | (refine Zb ?_ ?_ <;> intro hb <;> first | (simp (disch := omega) only [go_sem] at hb; done) | (simp (disch := omega) only [go_sem] at hb; try omega) | try omega)
          | (refine Zl ?_; intro bn hnil; (try simp (disch := omega) only [go_sem] at hnil); dsimp only [putT, List.set_cons_succ, List.set_cons_zero])
        all_goals
          refine W_foldK (fun (a : Nat × Int × Int) => [none, none, none, none, none, none, none, none, none, none, none, none, none, none, some .junk, none, none, none, none, none, none, none, none, some (.int .i64 a.2.1), some (.int .i64 a.2.2), some (.int .i64 a.1), none, none, none, none, none, none, none, none, none, none, none, none, none, none, none, none, none, none, none, none, none, none, none, none, none, none, none, none, none, none, none, none, none, none, none, none, none, none, none, none, none, none, none, none, none, none, none, none, none, none, none, none, none, none, none, none, none, none, none, none, none, none, none, none, none, none, none, none, none, none, none, none, none, none, none, none, none, some .junk, some .junk, some .junk, some .junk, some .junk, some .junk, some .junk, some .junk, some .junk, some .junk, some .junk, some .junk, some .junk, some .junk, some .junk, some .junk, some .junk, some .junk, some .junk, some .junk, some .junk, some .junk, some .junk, some .junk, some .junk, some .junk, some .junk, some .junk, some .junk, some .junk, some .junk, some .junk, some .junk, some .junk, some .junk, some .junk, some .junk, some .junk, some .junk, some .junk, some .junk, some .junk, some .junk, some .junk, some .junk, some .junk, some .junk, some .junk, some .junk, some .junk, some .junk, some .junk, some .junk, some .junk, some .junk, some .junk, some .junk, some .junk, some .junk, some .junk, some .junk, some .junk, some .junk, some .junk, some .junk, some .junk, some .junk, some .junk, some .junk, some .junk, some .junk, some .junk, some .junk, some .junk, some .junk, some .junk, some .junk, some .junk, some .junk])
            (fun z => p ≤ z.1 ∧ z.1 ≤ q ∧ (z.1 = p → z.2.1 = 0 ∧ z.2.2 = 0) ∧ (p < z.1 → (laneAt (S (p + 1)).1 a).wait ≠ [] ∧ (laneAt (S (p + 1)).1 b).wait ≠ [] ∧ (laneAt (S z.1).1 a).wait ≠ [] ∧ (laneAt (S z.1).1 b).wait ≠ [] ∧
              z.2.1 = (laneAt (S z.1).1 a).start - (laneAt (S (p + 1)).1 a).start ∧ z.2.2 = (laneAt (S z.1).1 b).start - (laneAt (S (p + 1)).1 b).start))
            (fun z => q - z.1) (p, 0, 0) ⟨by simp, by simp only []; omega, by simp, by simp⟩ (by exact weak_mk wkD wkH wkN wkM (by omega)) ?_
          rintro ⟨j, x, y⟩ ⟨hj1, hj2, hj3, hj4⟩
          simp only [] at hj1 hj2 hj3 hj4
          simp only [msk_none, msk_some, msk_nil]
          rcases Nat.lt_or_ge j q with h6 | h6
          · obtain ⟨u, hu⟩ := some_of_lt (l := us) (i := j) (by omega)
            obtain ⟨g1, g2, g3⟩ := get j u (by omega) hu
            have hI := INV j (by omega)
            have hI2 := INV (j + 1) (by omega)
            have hG := hst j u hu
            have hSn : (S (j + 1)).1 = (stepR (S j).1 u j).1 := by rw [hG]
            have hlen := hI2.hl
            have hlen0 := hI.hl
            have xa := laneAt_get (f := (S (j + 1)).1) (k := (a : Int)) (by omega) (by omega)
            have xb := laneAt_get (f := (S (j + 1)).1) (k := (b : Int)) (by omega) (by omega)
            rw [Int.toNat_natCast] at xa xb
            have st := fun (c : Nat) (hc : (c : Int) < o) (hne : (laneAt (S j).1 c).wait ≠ []) => start_step hI (by omega) (by omega) (by omega) u c (laneAt (S j).1 c) (laneAt (S (j + 1)).1 c) (by simpa using laneAt_get (f := (S j).1) (k := (c : Int)) (by omega) (by omega)) hne (by rw [← hSn]; simpa using laneAt_get (f := (S (j + 1)).1) (k := (c : Int)) (by omega) (by omega))
            have na := near (j + 1) (by omega) a k3
            have nb := near (j + 1) (by omega) b k4
            have nja := near j (by omega) a k3
            have njb := near j (by omega) b k4
            have npa := near (p + 1) (by omega) a k3
            have npb := near (p + 1) (by omega) b k4
            generalize (stepR (S j).1 u j).2.1 = fr at *
            generalize (stepR (S j).1 u j).2.2 = wd at *
            have sa := st a k3
            have sb := st b k4
            clear st hSn hG hI hI2 INV near hinv hst get
            by_cases ea : (laneAt (S (j + 1)).1 a).wait = []
            · have ea2 : (laneAt (S (j + 1)).1 a).wait.length = 0 := by rw [ea]; rfl
              have zz1 := rws_get g1
              have zz2 := rws_get xa
              have zz3 := len
              repeat' first
                | refine Z3 ?_
                | refine Zx ?_
                | (refine Ze ?_; clear hK K)
                | refine W_reg fun K hK => ?_
                | refine W_drwR rfl mixed (by decide +kernel) fun K hK => ?_
                | refine W_drw mixed (by decide +kernel) fun K hK => ?_
                | (refine Zb ?_ ?_ <;> intro hb <;> first | (simp (disch := omega) only [go_sem, zz1, zz2, zz3] at hb; done) | (simp (disch := omega) only [go_sem, zz1, zz2, zz3] at hb; try omega) | try omega)
                | (refine Zl ?_; intro bn hnil; (try simp (disch := omega) only [go_sem, zz1, zz2, zz3] at hnil); dsimp only [putT, List.set_cons_succ, List.set_cons_zero])
              exact Zr
            · have ea2 := List.length_pos_iff.2 ea
              by_cases eb : (laneAt (S (j + 1)).1 b).wait = []
              · have eb2 : (laneAt (S (j + 1)).1 b).wait.length = 0 := by rw [eb]; rfl
                have zz1 := rws_get g1
                have zz2 := rws_get xa
                have zz3 := rws_get xb
                have zz4 := len
                repeat' first
                  | refine Z4 ?_
                  | refine Zx ?_
                  | (refine Ze ?_; clear hK K)
                  | refine W_reg fun K hK => ?_
                  | refine W_drwR rfl mixed (by decide +kernel) fun K hK => ?_
                  | refine W_drw mixed (by decide +kernel) fun K hK => ?_
                  | (refine Zb ?_ ?_ <;> intro hb <;> first | (simp (disch := omega) only [go_sem, zz1, zz2, zz3, zz4] at hb; done) | (simp (disch := omega) only [go_sem, zz1, zz2, zz3, zz4] at hb; try omega) | try omega)
                  | (refine Zl ?_; intro bn hnil; (try simp (disch := omega) only [go_sem, zz1, zz2, zz3, zz4] at hnil); dsimp only [putT, List.set_cons_succ, List.set_cons_zero])
                exact Zr
              · have eb2 := List.length_pos_iff.2 eb
                have na := na ea
                have nb := nb eb
                rcases Nat.lt_or_ge p j with h7 | h7
                · obtain ⟨r1, r2, r3, r4, r5, r6⟩ := hj4 h7
                  have npa := npa r1
                  have npb := npb r2
                  have nja := nja r3
                  have njb := njb r4
                  have sa := sa r3
                  have sb := sb r4
                  by_cases fa : fr = a
                  · have fb : ¬ fr = b := by omega
                    rw [if_pos fa] at sa
                    rw [if_neg fb] at sb
                    have zz1 := rws_get g1
                    have zz2 := rws_get xa
                    have zz3 := rws_get xb
                    have zz4 := len
                    have zz5 := rws_get g2
                    have zz6 := rws_get g3
                    repeat' first
                      | refine Z6 ?_
                      | refine Zx ?_
                      | (refine Ze ?_; clear hK K)
                      | refine W_reg fun K hK => ?_
                      | refine W_drwR rfl mixed (by decide +kernel) fun K hK => ?_
                      | refine W_drw mixed (by decide +kernel) fun K hK => ?_
                      | (refine Zb ?_ ?_ <;> intro hb <;> first | (simp (disch := omega) only [go_sem, zz1, zz2, zz3, zz4, zz5, zz6] at hb; done) | (simp (disch := omega) only [go_sem, zz1, zz2, zz3, zz4, zz5, zz6] at hb; try omega) | try omega)
                      | (refine Zl ?_; intro bn hnil; (try simp (disch := omega) only [go_sem, zz1, zz2, zz3, zz4, zz5, zz6] at hnil); dsimp only [putT, List.set_cons_succ, List.set_cons_zero])
                    exact L_next ⟨(j + 1, x + wd * g, y), by simp; omega, ⟨by simp; omega, by simp; omega, fun h => by simp at h; omega, fun _ => ⟨r1, r2, ea, eb, by simp only []; omega, by simp only []; omega⟩⟩, (by exact weak_mk wkD wkH wkN wkM (by omega))⟩
                  · rw [if_neg fa] at sa
                    by_cases fb : fr = b
                    · rw [if_pos fb] at sb
                      have zz1 := rws_get g1
                      have zz2 := rws_get xa
                      have zz3 := rws_get xb
                      have zz4 := len
                      have zz5 := rws_get g2
                      have zz6 := rws_get g3
                      repeat' first
                        | refine Z6 ?_
                        | refine Zx ?_
                        | (refine Ze ?_; clear hK K)
                        | refine W_reg fun K hK => ?_
                        | refine W_drwR rfl mixed (by decide +kernel) fun K hK => ?_
                        | refine W_drw mixed (by decide +kernel) fun K hK => ?_
                        | (refine Zb ?_ ?_ <;> intro hb <;> first | (simp (disch := omega) only [go_sem, zz1, zz2, zz3, zz4, zz5, zz6] at hb; done) | (simp (disch := omega) only [go_sem, zz1, zz2, zz3, zz4, zz5, zz6] at hb; try omega) | try omega)
                        | (refine Zl ?_; intro bn hnil; (try simp (disch := omega) only [go_sem, zz1, zz2, zz3, zz4, zz5, zz6] at hnil); dsimp only [putT, List.set_cons_succ, List.set_cons_zero])
                      exact L_next ⟨(j + 1, x, y + wd * g), by simp; omega, ⟨by simp; omega, by simp; omega, fun h => by simp at h; omega, fun _ => ⟨r1, r2, ea, eb, by simp only []; omega, by simp only []; omega⟩⟩, (by exact weak_mk wkD wkH wkN wkM (by omega))⟩
                    · rw [if_neg fb] at sb
                      have zz1 := rws_get g1
                      have zz2 := rws_get xa
                      have zz3 := rws_get xb
                      have zz4 := len
                      have zz5 := rws_get g2
                      have zz6 := rws_get g3
                      repeat' first
                        | refine Z6 ?_
                        | refine Zx ?_
                        | (refine Ze ?_; clear hK K)
                        | refine W_reg fun K hK => ?_
                        | refine W_drwR rfl mixed (by decide +kernel) fun K hK => ?_
                        | refine W_drw mixed (by decide +kernel) fun K hK => ?_
                        | (refine Zb ?_ ?_ <;> intro hb <;> first | (simp (disch := omega) only [go_sem, zz1, zz2, zz3, zz4, zz5, zz6] at hb; done) | (simp (disch := omega) only [go_sem, zz1, zz2, zz3, zz4, zz5, zz6] at hb; try omega) | try omega)
                        | (refine Zl ?_; intro bn hnil; (try simp (disch := omega) only [go_sem, zz1, zz2, zz3, zz4, zz5, zz6] at hnil); dsimp only [putT, List.set_cons_succ, List.set_cons_zero])
                      exact L_next ⟨(j + 1, x, y), by simp; omega, ⟨by simp; omega, by simp; omega, fun h => by simp at h; omega, fun _ => ⟨r1, r2, ea, eb, by simp only []; omega, by simp only []; omega⟩⟩, (by exact weak_mk wkD wkH wkN wkM (by omega))⟩
                · obtain rfl : j = p := by omega
                  obtain ⟨rfl, rfl⟩ := hj3 rfl
                  have zz1 := rws_get g1
                  have zz2 := rws_get xa
                  have zz3 := rws_get xb
                  have zz4 := len
                  repeat' first
                    | refine Z4 ?_
                    | refine Zx ?_
                    | (refine Ze ?_; clear hK K)
                    | refine W_reg fun K hK => ?_
                    | refine W_drwR rfl mixed (by decide +kernel) fun K hK => ?_
                    | refine W_drw mixed (by decide +kernel) fun K hK => ?_
                    | (refine Zb ?_ ?_ <;> intro hb <;> first | (simp (disch := omega) only [go_sem, zz1, zz2, zz3, zz4] at hb; done) | (simp (disch := omega) only [go_sem, zz1, zz2, zz3, zz4] at hb; try omega) | try omega)
                    | (refine Zl ?_; intro bn hnil; (try simp (disch := omega) only [go_sem, zz1, zz2, zz3, zz4] at hnil); dsimp only [putT, List.set_cons_succ, List.set_cons_zero])
                  exact L_next ⟨(j + 1, 0, 0), by simp; omega, ⟨by simp, by simp; omega, fun h => by simp at h, fun _ => ⟨ea, eb, ea, eb, by simp only []; omega, by simp only []; omega⟩⟩, (by exact weak_mk wkD wkH wkN wkM (by omega))⟩
          · obtain rfl : j = q := by omega
            obtain ⟨r1, r2, r3, r4, r5, r6⟩ := hj4 (by omega)
            have n1 := near j (by omega) a k3 r3
            have n2 := near j (by omega) b k4 r4
            have n3 := near (p + 1) (by omega) a k3 r1
            have n4 := near (p + 1) (by omega) b k4 r2
            have b1 : x - y ≤ 2 * mo * g := by omega
            have b2 : y - x ≤ 2 * mo * g := by omega
            repeat' first
              | refine Z0 ?_
              | refine Zx ?_
              | (refine Ze ?_; clear hK K)
              | refine W_reg fun K hK => ?_
              | refine W_drwR rfl mixed (by decide +kernel) fun K hK => ?_
              | refine W_drw mixed (by decide +kernel) fun K hK => ?_
              | (refine Zb ?_ ?_ <;> intro hb <;> first | (simp (disch := omega) only [go_sem] at hb; done) | (simp (disch := omega) only [go_sem] at hb; try omega) | try omega)
              | (refine Zl ?_; intro bn hnil; (try simp (disch := omega) only [go_sem] at hnil); dsimp only [putT, List.set_cons_succ, List.set_cons_zero])
            exact Zr
    · refine PCall_intro (c := Try.f9.body.getD .skip) Try.func9 rfl (by decide +kernel) Zf (W_start ?_)
      simp only [Try.f9, go_sem]
      have zz1 := len
      repeat' first
        | refine Z1 ?_
        | refine Zx ?_
        | refine Zc c0 ?_
        | refine Zc c1 ?_
        | (refine Ze ?_; clear hK K)
        | refine W_reg fun K hK => ?_
        | refine W_drwR rfl mixed (by decide +kernel) fun K hK => ?_
        | refine W_drw mixed (by decide +kernel) fun K hK => ?_
        | (refine Zb ?_ ?_ <;> intro hb <;> first | (simp (disch := omega) only [go_sem, zz1] at hb; done) | (simp (disch := omega) only [go_sem, zz1] at hb; try omega) | try omega)
        | (refine Zl ?_; intro bn hnil; (try simp (disch := omega) only [go_sem, zz1] at hnil); dsimp only [putT, List.set_cons_succ, List.set_cons_zero])
      all_goals first | (exfalso; omega) | skip
      all_goals exact Zr
  · have e0 : runOut o g us = ([], [], [], false) := if_neg hm
    rw [e0] at c1
    rw [fnew_eq, if_neg hm] at a1
    simp only [shapeV, runV] at a1 c1
    refine PCall_intro (c := Try.f9.body.getD .skip) Try.func9 rfl (by decide +kernel) Zf (W_start ?_)
    simp only [Try.f9, go_sem]
    repeat' first
      | refine Z0 ?_
      | refine Zx ?_
      | refine Zc c0 ?_
      | refine Zc c1 ?_
      | refine Zc a1 ?_
      | (refine Ze ?_; clear hK K)
      | refine W_reg fun K hK => ?_
      | refine W_drwR rfl mixed (by decide +kernel) fun K hK => ?_
      | refine W_drw mixed (by decide +kernel) fun K hK => ?_
      | (refine Zb ?_ ?_ <;> intro hb <;> first | (simp (disch := omega) only [go_sem] at hb; done) | (simp (disch := omega) only [go_sem] at hb; try omega) | try omega)
      | (refine Zl ?_; intro bn hnil; (try simp (disch := omega) only [go_sem] at hnil); dsimp only [putT, List.set_cons_succ, List.set_cons_zero])
    exact Zr

end Go.Proofs.Ytdgjelfeclgolaa
