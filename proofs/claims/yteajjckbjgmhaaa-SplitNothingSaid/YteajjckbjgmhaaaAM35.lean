/-
  AM, part 35: loops at whose beginning the objects are counted anew.
-/
import Derived.Test.YteajjckbjgmhaaaAM34
set_option linter.unusedVariables false
namespace Go.AM
open Go

def nmL (n : Nat) : List AVal → Prop
  | [] => True
  | x :: xs => Nm (Lt n) x ∧ nmL n xs

def nmH (n : Nat) : Heap → Prop
  | [] => True
  | e :: h => e.1 < n ∧ e.2.nm (Lt n) ∧ nmH n h

theorem nmL_mem {n : Nat} : ∀ {xs : List AVal}, nmL n xs → ∀ x, x ∈ xs → Nm (Lt n) x
  | [], _, x, hx => by cases hx
  | y :: ys, h, x, hx => by
    rcases List.mem_cons.1 hx with rfl | hx
    · exact h.1
    · exact nmL_mem h.2 x hx

theorem nmH_lk {n : Nat} : ∀ {h : Heap}, nmH n h → ∀ id o, lk h id = some o → id < n ∧ o.nm (Lt n)
  | [], _, id, o, e => by simp [lk] at e
  | (i, ob) :: h, hh, id, o, e => by
    simp only [lk] at e
    split at e
    · rename_i he
      injection e with e
      subst he
      subst e
      exact ⟨hh.1, hh.2.1⟩
    · exact nmH_lk hh.2.2 id o e

theorem nm_junk (p : Nat → Prop) : Nm p .junk ↔ True := ⟨fun _ => trivial, fun _ => .junk⟩
theorem nm_int (p : Nat → Prop) (k : IntKind) (n : Int) : Nm p (.int k n) ↔ True := ⟨fun _ => trivial, fun _ => .int k n⟩
theorem nm_bool (p : Nat → Prop) (b : Bool) : Nm p (.bool b) ↔ True := ⟨fun _ => trivial, fun _ => .bool b⟩
theorem nm_str (p : Nat → Prop) (s : ByteArray) : Nm p (.str s) ↔ True := ⟨fun _ => trivial, fun _ => .str s⟩
theorem nm_ref (n id sz base len : Nat) (ex : Bool) (c : Nat) : Nm (Lt n) (.ref id sz base len ex c) ↔ id < n := ⟨fun h => by cases h with | ref _ _ _ _ _ _ h => exact h, fun h => .ref _ _ _ _ _ _ h⟩
theorem nm_ptr (n id sz row col : Nat) : Nm (Lt n) (.ptr id sz row col) ↔ id < n := ⟨fun h => by cases h with | ptr _ _ _ _ h => exact h, fun h => .ptr _ _ _ _ h⟩
theorem nm_ri (p : Nat → Prop) (xs : List Int) (lim : Option Nat) : Nm p (.sl (ri xs) lim) ↔ True := ⟨fun _ => trivial, fun _ => Fz.nm (ri_fz xs lim) p⟩
theorem nm_nil (p : Nat → Prop) (lim : Option Nat) : Nm p (.sl [] lim) ↔ True := ⟨fun _ => trivial, fun _ => .sl _ _ (by simp)⟩
theorem nm_agg (p : Nat → Prop) (xs : List AVal) : Nm p (.agg xs) ↔ ∀ x, x ∈ xs → Nm p x := ⟨fun h => by cases h with | agg _ h => exact h, fun h => .agg _ h⟩
theorem nm_ori (p : Nat → Prop) (esz : Nat) (xs : List Int) : (Ob.arr esz (ri xs)).nm p ↔ True := ⟨fun _ => trivial, fun _ r hr x hx => by
  simp only [ri, List.mem_map] at hr
  obtain ⟨a, _, rfl⟩ := hr
  simp at hx
  subst hx
  exact .int _ _⟩
theorem nm_oarr (p : Nat → Prop) (esz : Nat) (rows : List (List AVal)) : (Ob.arr esz rows).nm p ↔ ∀ r, r ∈ rows → ∀ x, x ∈ r → Nm p x := Iff.rfl

theorem weak_mk {n0 nx nx' : Nat} {tm tm' : List AVal} {h h' : Heap} (d : dropL tm tm') (hh : ∀ id o, lk h' id = some o → lk h id = some o) (nm : nmL nx' tm') (nmh : nmH nx' h') (low : n0 ≤ nx') : Weak n0 ⟨tm, h, nx⟩ ⟨tm', h', nx'⟩ :=
  ⟨dropL_len d, dropL_at d, hh, nmL_mem nm, nmH_lk nmh, low⟩

theorem lk_same (h : Heap) (id : Nat) (o : Ob) (e : lk h id = some o) : lk h id = some o := e

theorem sub_keep {i : Nat} {ob : Ob} {h h' : Heap} (hh : ∀ id o, lk h' id = some o → lk h id = some o) (id : Nat) (o : Ob) (e : lk ((i, ob) :: h') id = some o) : lk ((i, ob) :: h) id = some o := by
  simp only [lk] at e ⊢
  split at e
  · rename_i hi; rw [if_pos hi]; exact e
  · rename_i hi; rw [if_neg hi]; exact hh id o e
theorem sub_drop {i : Nat} {ob : Ob} {h h' : Heap} (hh : ∀ id o, lk h' id = some o → lk h id = some o) (hn : lk h' i = none) (id : Nat) (o : Ob) (e : lk h' id = some o) : lk ((i, ob) :: h) id = some o := by
  simp only [lk]
  split
  · rename_i hi; subst hi; rw [hn] at e; cases e
  · exact hh id o e

def forW (n0 id : Nat) (J : St → Prop) (R : Exit → St → Prop) : Exit → St → Prop
  | .exit i, s => if i = id then ∃ s', J s' ∧ Weak n0 s s' else R (.exit i) s
  | e, s => R e s

section
variable {P : Program} {n0 : Nat} {Q : Exit → St → Prop} {s : St} {k : List It}

theorem W_forW {c : Code} {id : Nat} (I : Nat → St → Prop) (J : St → Prop) (n : Nat) (s' : St) (h0 : I n s') (hd : Weak n0 s s') (after : ∀ s, J s → unw P n0 k Q .normal s)
    (round : ∀ n s, I n s → AWP P n0 c (unw P n0 [] (thenQ (fun s' => ∃ m, m < n ∧ ∃ s'', I m s'' ∧ Weak n0 s' s'') (forW n0 id J (unw P n0 k Q)))) s) : AWP P n0 (.loop c) (unw P n0 (.blk id :: k) Q) s := by
  refine W_loop I n s' h0 hd fun m s1 hI => ?_
  intro ext β a w i
  refine wp_mono (round m s1 hI ext β a w i) ?_
  rintro e a2 w2 ⟨β2, s2, q, i2, g2⟩
  cases e with
  | normal => exact ⟨β2, s2, q, i2, g2⟩
  | exit j =>
    change forW n0 id J (unw P n0 k Q) (.exit j) s2 at q
    simp only [forW] at q
    by_cases hj : j = id
    · rw [if_pos hj] at q
      obtain ⟨s3, hJ, hd3⟩ := q
      obtain ⟨i3, g3⟩ := i2.weak hd3
      subst hj
      exact ⟨β2, s3, E_blk (after s3 hJ), i3, g2.trans g3⟩
    · rw [if_neg hj] at q
      exact ⟨β2, s2, E_blk_ne hj q, i2, g2⟩
  | goto l => exact ⟨β2, s2, q, i2, g2⟩
  | ret => exact ⟨β2, s2, q, i2, g2⟩
  | panic ch => exact ⟨β2, s2, q, i2, g2⟩
  | outgrown => exact ⟨β2, s2, q, i2, g2⟩

theorem FW_exit {F : St → Prop} {id : Nat} {J : St → Prop} {R : Exit → St → Prop} (h : ∃ s', J s' ∧ Weak n0 s s') : unw P n0 [] (thenQ F (forW n0 id J R)) (.exit id) s := by
  show forW n0 id J R (.exit id) s
  simp only [forW, if_true]
  exact h
theorem FW_ret {F : St → Prop} {id : Nat} {J : St → Prop} (h : unw P n0 k Q .ret s) : unw P n0 [] (thenQ F (forW n0 id J (unw P n0 k Q))) .ret s := h
theorem FW_out {F : St → Prop} {id i : Nat} {J : St → Prop} (hi : ¬ i = id) (h : unw P n0 k Q (.exit i) s) : unw P n0 [] (thenQ F (forW n0 id J (unw P n0 k Q))) (.exit i) s := by
  show forW n0 id J _ (.exit i) s
  simp only [forW, if_neg hi]
  exact h

/-- A state is given up for one that says less, and counts its objects anew. -/
theorem W_weak {c : Code} (s' : St) (hd : Weak n0 s s') (h : AWP P n0 c (unw P n0 k Q) s') : AWP P n0 c (unw P n0 k Q) s := AWP_weak s' hd h

end
end Go.AM
