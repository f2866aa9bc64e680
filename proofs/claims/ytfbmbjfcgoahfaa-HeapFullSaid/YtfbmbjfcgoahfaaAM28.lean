/-
  AM, part 28: a loop, and what holds behind it.
-/
import Derived.Test.YtfbmbjfcgoahfaaAM27
namespace Go.AM
open Go

def forQ (id : Nat) (J : St → Prop) (R : Exit → St → Prop) : Exit → St → Prop
  | .exit i, s => if i = id then ∃ s', J s' ∧ Drop s s' else R (.exit i) s
  | e, s => R e s

section
variable {P : Program} {n0 : Nat} {Q : Exit → St → Prop} {s : St} {k : List It}

/-- A loop in its block: what holds at the beginning of a round, with a number that falls; what holds behind it. -/
theorem W_for {c : Code} {id : Nat} (I : Nat → St → Prop) (J : St → Prop) (n : Nat) (s' : St) (h0 : I n s') (hd : Drop s s') (after : ∀ s, J s → unw P n0 k Q .normal s)
    (round : ∀ n s, I n s → AWP P n0 c (unw P n0 [] (thenQ (fun s' => ∃ m, m < n ∧ ∃ s'', I m s'' ∧ Drop s' s'') (forQ id J (unw P n0 k Q)))) s) : AWP P n0 (.loop c) (unw P n0 (.blk id :: k) Q) s := by
  refine W_while I n s' h0 hd fun m s1 hI => ?_
  intro ext β a w i
  refine wp_mono (round m s1 hI ext β a w i) ?_
  rintro e a2 w2 ⟨β2, s2, q, i2, g2⟩
  cases e with
  | normal => exact ⟨β2, s2, q, i2, g2⟩
  | exit j =>
    change forQ id J (unw P n0 k Q) (.exit j) s2 at q
    simp only [forQ] at q
    by_cases hj : j = id
    · rw [if_pos hj] at q
      obtain ⟨s3, hJ, hd3⟩ := q
      obtain ⟨i3, g3⟩ := i2.weak (hd3.weak i2)
      subst hj
      exact ⟨β2, s3, E_blk (after s3 hJ), i3, g2.trans g3⟩
    · rw [if_neg hj] at q
      exact ⟨β2, s2, E_blk_ne hj q, i2, g2⟩
  | goto l => exact ⟨β2, s2, q, i2, g2⟩
  | ret => exact ⟨β2, s2, q, i2, g2⟩
  | panic ch => exact ⟨β2, s2, q, i2, g2⟩
  | outgrown => exact ⟨β2, s2, q, i2, g2⟩

theorem F_exit {F : St → Prop} {id : Nat} {J : St → Prop} {R : Exit → St → Prop} (h : ∃ s', J s' ∧ Drop s s') : unw P n0 [] (thenQ F (forQ id J R)) (.exit id) s := by
  show forQ id J R (.exit id) s
  simp only [forQ, if_true]
  exact h
theorem F_ret {F : St → Prop} {id : Nat} {J : St → Prop} (h : unw P n0 k Q .ret s) : unw P n0 [] (thenQ F (forQ id J (unw P n0 k Q))) .ret s := h
theorem F_out {F : St → Prop} {id i : Nat} {J : St → Prop} (hi : ¬ i = id) (h : unw P n0 k Q (.exit i) s) : unw P n0 [] (thenQ F (forQ id J (unw P n0 k Q))) (.exit i) s := by
  show forQ id J _ (.exit i) s
  simp only [forQ, if_neg hi]
  exact h
theorem F_next {F : St → Prop} {R : Exit → St → Prop} (h : F s) : unw P n0 [] (thenQ F R) .normal s := h

end

/-- The objects' numbers are not known: those that were there stay below, the new ones stand above. -/
theorem indepB_shift {n n0 M m : Nat} {Pr : List Nat} {tc0 tc : List (Bool × List Nat)} (hm : M ≤ m) (hn : m ≤ n0) (h : indepB n M Pr tc0 = true) (ht : tc0.map (fun e => (e.1, e.2.map fun j => if j < M then j else n0 + (j - M))) = tc) : indepB n n0 Pr tc = true := by
  subst ht
  have inj : ∀ a b : Nat, (if a < M then a else n0 + (a - M)) = (if b < M then b else n0 + (b - M)) → a = b := fun a b e => by
    split at e <;> split at e <;> omega
  have hg : ∀ i : Nat, (tc0.map (fun e => (e.1, e.2.map fun j => if j < M then j else n0 + (j - M)))).getD i (false, []) = ((tc0.getD i (false, [])).1, (tc0.getD i (false, [])).2.map fun j => if j < M then j else n0 + (j - M)) := fun i => by
    simp only [List.getD_eq_getElem?_getD, List.getElem?_map]
    cases tc0[i]? <;> simp
  unfold indepB at h ⊢
  rw [List.all_eq_true] at h ⊢
  intro i hi
  have h1 := h i hi
  rw [List.all_eq_true] at h1 ⊢
  intro k hk
  have h2 := h1 k hk
  rw [hg, hg]
  simp only [Bool.or_eq_true, Bool.and_eq_true, Bool.not_eq_true', beq_iff_eq, List.all_eq_true] at h2 ⊢
  refine h2.imp (fun h => h) fun ⟨h3, h4⟩ => ⟨h3.imp (fun h => h) fun h id hid => ?_, ?_⟩
  · obtain ⟨j, hj, rfl⟩ := List.mem_map.1 hid
    have h5 := h j hj
    rw [Bool.eq_false_iff] at h5 ⊢
    intro h6
    apply h5
    rw [List.contains_iff_mem] at h6 ⊢
    obtain ⟨j', hj', e⟩ := List.mem_map.1 h6
    exact inj _ _ e ▸ hj'
  · rw [Bool.eq_false_iff] at h4 ⊢
    intro h6
    apply h4
    rw [List.contains_iff_mem] at h6 ⊢
    obtain ⟨j', hj', e⟩ := List.mem_map.1 h6
    have : j' = M + i := by split at e <;> omega
    exact this ▸ hj'

end Go.AM
