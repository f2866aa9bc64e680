/-
  slices.SortFunc at a struct: insertion sort; walked. From a template.
-/
import Derived.Test.YtdgjelfeclgolaaTab
import Derived.Test.YtdgjelfeclgolaaSK
namespace Go.Proofs.Ytdgjelfeclgolaa
open Go Go.AM
set_option maxHeartbeats 8000000
set_option maxRecDepth 8000
set_option linter.unusedSimpArgs false
set_option linter.unusedVariables false

instance : Inhabited TTicket := ⟨⟨0,0,0,0,0⟩⟩

/-- The comparison, as less. -/
abbrev ltC (c : TTicket → TTicket → Int) : TTicket → TTicket → Bool := fun x y => decide (c x y < 0)
/-- What the comparison hands back. -/
def CmpOk (g : FuncId) (c : TTicket → TTicket → Int) : Prop := ∀ x y : TTicket, PCall Try.prog g [.agg (Enc.enc x), .agg (Enc.enc y)] (· = .int .i64 (c x y))

section
variable {c : TTicket → TTicket → Int}

theorem ins_ok (hc : CmpOk 114 c) (d : Array TTicket) (a b : Nat) (hab : a ≤ b) (hb : b ≤ d.size) (hn : d.size ≤ 4294967296) : HCall Try.prog 120 [.ref 0 d.size 0 d.size false d.size, .int .i64 a, .int .i64 b, .func (.func 114) [] []] [(0, .arr 5 (rws d.toList))] 1
    (fun r h _ => r = .tuple [] ∧ h = [(0, .arr 5 (rws (Sort.insertionSort (ltC c) d a b).toList))]) := by
  obtain ⟨R, hR⟩ : ∃ R, Sort.insertionSort (ltC c) d a b = R := ⟨_, rfl⟩
  rw [hR]
  unfold Sort.insertionSort at hR
  generalize hN : d.size = N at *
  refine HCall_intro (c := Try.f120.body.getD .skip) Try.func120 rfl (by decide +kernel) (W_start ?_)
  simp only [Try.f120, go_sem]
  repeat' first
    | refine Z0 ?_
    | refine Zx ?_
    | (refine Ze ?_; clear hK K)
    | refine W_reg fun K hK => ?_
    | refine W_drwR rfl mixed (by decide +kernel) fun K hK => ?_
    | refine W_drw mixed (by decide +kernel) fun K hK => ?_
    | (refine Zb ?_ ?_ <;> intro hb <;> first | (simp (disch := omega) only [go_sem] at hb; done) | (simp (disch := omega) only [go_sem] at hb; try omega) | try omega)
    | (refine Zl ?_; intro bn hnil; (try simp (disch := omega) only [go_sem] at hnil); dsimp only [putT, List.set_cons_succ, List.set_cons_zero])
  refine W_foldM (fun (q : Nat × Array TTicket) => [none, none, none, none, none, none, none, none, some (.int .i64 q.1), some .junk, none, none, some .junk, some .junk, some .junk, some .junk, some .junk, some .junk, some .junk, some .junk, some .junk, some .junk, some .junk, some .junk, some .junk, some .junk, some .junk, some .junk, some .junk, some .junk, some .junk, some .junk, some .junk, some .junk, some .junk, some .junk, some .junk, some .junk, some .junk, some .junk, some .junk, some .junk, some .junk, some .junk, some .junk, some .junk, some .junk, some .junk, some .junk, some .junk, some .junk, some .junk, some .junk]) (fun q => [(0, .arr 5 (rws q.2.toList))]) (fun q => a + 1 ≤ q.1 ∧ q.2.size = N ∧ Sort.insOuter (ltC c) a b q.1 q.2 = R) (fun q => b - q.1) (a + 1, d) ⟨by omega, hN, hR⟩ (by exact weak_mk wkD wkH wkN wkM (by omega)) ?_
  rintro ⟨i, d1⟩ ⟨h1, h2, h3⟩
  simp only [] at h1 h2 h3
  simp only [msk_none, msk_some, msk_nil]
  rw [Sort.insOuter] at h3
  by_cases hi : i < b
  · rw [if_pos hi] at h3
    repeat' first
      | refine Z0 ?_
      | refine Zx ?_
      | (refine Ze ?_; clear hK K)
      | refine W_reg fun K hK => ?_
      | refine W_drwR rfl mixed (by decide +kernel) fun K hK => ?_
      | refine W_drw mixed (by decide +kernel) fun K hK => ?_
      | (refine Zb ?_ ?_ <;> intro hb <;> first | (simp (disch := omega) only [go_sem] at hb; done) | (simp (disch := omega) only [go_sem] at hb; try omega) | try omega)
      | (refine Zl ?_; intro bn hnil; (try simp (disch := omega) only [go_sem] at hnil); dsimp only [putT, List.set_cons_succ, List.set_cons_zero])
    refine W_foldM (fun (q : Nat × Array TTicket) => [none, none, none, none, none, none, none, none, none, some (.int .i64 q.1), none, none, none, none, none, none, none, none, some .junk, some .junk, some .junk, some .junk, some .junk, some .junk, some .junk, some .junk, some .junk, some .junk, some .junk, some .junk, some .junk, some .junk, some .junk, some .junk, some .junk, some .junk, some .junk, some .junk, some .junk, some .junk, some .junk, some .junk, some .junk, some .junk, some .junk, some .junk, some .junk, some .junk, some .junk, some .junk, some .junk, some .junk, some .junk]) (fun q => [(0, .arr 5 (rws q.2.toList))]) (fun q => q.1 ≤ i ∧ q.2.size = N ∧ Sort.insInner (ltC c) a q.1 q.2 = Sort.insInner (ltC c) a i d1) (fun q => q.1) (i, d1) ⟨Nat.le_refl _, h2, rfl⟩ (by exact weak_mk wkD wkH wkN wkM (by omega)) ?_
    rintro ⟨j, d2⟩ ⟨k1, k2, k3⟩
    simp only [] at k1 k2 k3
    simp only [msk_none, msk_some, msk_nil]
    have hl2 := srl d2
    rw [k2] at hl2
    by_cases hj : a < j
    · obtain ⟨k, rfl⟩ : ∃ k, j = k + 1 := ⟨j - 1, by omega⟩
      have x1 := sget d2 (i := k + 1) (by omega)
      have x2 := sget d2 (i := k) (by omega)
      have c1 := hc d2[k + 1]! d2[k]!
      have u1 : (((k + 1 : Nat) : Int) - 1).toNat = k := by omega
      have u2 : (((k + 1 : Nat) : Int)).toNat = k + 1 := by omega
      have u3 : ((k + 1 : Nat) : Int) - 1 = (k : Int) := by omega
      rw [Sort.insInner] at k3
      by_cases hlt : c d2[k + 1]! d2[k]! < 0
      · rw [if_pos (by simp [hlt]; omega)] at k3
        have e1 := sset d2 (k + 1) d2[k]!
        have e2 := ssw d2 (k + 1) k
        have e3 := ssz d2 (k + 1) d2[k]!
        rw [k2] at e3
        have x3 := sget (d2.setIfInBounds (k + 1) d2[k]!) (i := k) (by simp; omega)
        simp only [enc_TTicket] at e1 e2
        have zz1 := x1
        have zz2 := x2
        have zz3 := u1
        have zz4 := u2
        have zz5 := u3
        have zz6 := hl2
        have zz7 := e1
        have zz8 := e2
        have zz9 := e3
        have zz10 := x3
        repeat' first
          | refine Z10 ?_
          | refine Zx ?_
          | refine Zc c1 ?_
          | (refine Ze ?_; clear hK K)
          | refine W_reg fun K hK => ?_
          | refine W_drwR rfl mixed (by decide +kernel) fun K hK => ?_
          | refine W_drw mixed (by decide +kernel) fun K hK => ?_
          | (refine Zb ?_ ?_ <;> intro hb <;> first | (simp (disch := omega) only [go_sem, zz1, zz2, zz3, zz4, zz5, zz6, zz7, zz8, zz9, zz10] at hb; done) | (simp (disch := omega) only [go_sem, zz1, zz2, zz3, zz4, zz5, zz6, zz7, zz8, zz9, zz10] at hb; try omega) | try omega)
          | (refine Zl ?_; intro bn hnil; (try simp (disch := omega) only [go_sem, zz1, zz2, zz3, zz4, zz5, zz6, zz7, zz8, zz9, zz10] at hnil); dsimp only [putT, List.set_cons_succ, List.set_cons_zero])
        all_goals exact L_next ⟨(k, Sort.swp d2 (k + 1) k), by simp, ⟨by simp only []; omega, by rw [Sort.size_swp]; exact k2, k3⟩, (by exact weak_mk wkD wkH wkN wkM (by omega))⟩
      · rw [if_neg (by simp [hlt])] at k3
        rw [← k3] at h3
        have zz1 := x1
        have zz2 := x2
        have zz3 := u1
        have zz4 := u2
        have zz5 := u3
        have zz6 := hl2
        repeat' first
          | refine Z6 ?_
          | refine Zx ?_
          | refine Zc c1 ?_
          | (refine Ze ?_; clear hK K)
          | refine W_reg fun K hK => ?_
          | refine W_drwR rfl mixed (by decide +kernel) fun K hK => ?_
          | refine W_drw mixed (by decide +kernel) fun K hK => ?_
          | (refine Zb ?_ ?_ <;> intro hb <;> first | (simp (disch := omega) only [go_sem, zz1, zz2, zz3, zz4, zz5, zz6] at hb; done) | (simp (disch := omega) only [go_sem, zz1, zz2, zz3, zz4, zz5, zz6] at hb; try omega) | try omega)
          | (refine Zl ?_; intro bn hnil; (try simp (disch := omega) only [go_sem, zz1, zz2, zz3, zz4, zz5, zz6] at hnil); dsimp only [putT, List.set_cons_succ, List.set_cons_zero])
        all_goals exact L_next ⟨(i + 1, d2), by simp; omega, ⟨by simp; omega, k2, h3⟩, (by exact weak_mk wkD wkH wkN wkM (by omega))⟩
    · have k4 : Sort.insInner (ltC c) a j d2 = d2 := by
        cases j with
        | zero => rfl
        | succ j => rw [Sort.insInner, if_neg (by simp; omega)]
      rw [k4] at k3
      rw [← k3] at h3
      repeat' first
        | refine Z0 ?_
        | refine Zx ?_
        | (refine Ze ?_; clear hK K)
        | refine W_reg fun K hK => ?_
        | refine W_drwR rfl mixed (by decide +kernel) fun K hK => ?_
        | refine W_drw mixed (by decide +kernel) fun K hK => ?_
        | (refine Zb ?_ ?_ <;> intro hb <;> first | (simp (disch := omega) only [go_sem] at hb; done) | (simp (disch := omega) only [go_sem] at hb; try omega) | try omega)
        | (refine Zl ?_; intro bn hnil; (try simp (disch := omega) only [go_sem] at hnil); dsimp only [putT, List.set_cons_succ, List.set_cons_zero])
      all_goals exact L_next ⟨(i + 1, d2), by simp; omega, ⟨by simp; omega, k2, h3⟩, (by exact weak_mk wkD wkH wkN wkM (by omega))⟩
  · rw [if_neg hi] at h3
    subst h3
    repeat' first
      | refine Z0 ?_
      | refine Zx ?_
      | (refine Ze ?_; clear hK K)
      | refine W_reg fun K hK => ?_
      | refine W_drwR rfl mixed (by decide +kernel) fun K hK => ?_
      | refine W_drw mixed (by decide +kernel) fun K hK => ?_
      | (refine Zb ?_ ?_ <;> intro hb <;> first | (simp (disch := omega) only [go_sem] at hb; done) | (simp (disch := omega) only [go_sem] at hb; try omega) | try omega)
      | (refine Zl ?_; intro bn hnil; (try simp (disch := omega) only [go_sem] at hnil); dsimp only [putT, List.set_cons_succ, List.set_cons_zero])
    exact Zrf

end
end Go.Proofs.Ytdgjelfeclgolaa
