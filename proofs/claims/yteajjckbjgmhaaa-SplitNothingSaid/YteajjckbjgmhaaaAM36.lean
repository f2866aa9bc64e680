/-
  AM, part 36: an object that nobody will write any more is taken for a value.
-/
import Derived.Test.YteajjckbjgmhaaaAM35
set_option linter.unusedVariables false
namespace Go.AM
open Go

/-- Each slot stays, or is given up, or what it names stands as it is from now on. -/
def FzL (h h2 : Heap) : List AVal → List AVal → Prop
  | [], [] => True
  | x :: xs, y :: ys => (y = x ∨ y = .junk ∨ (Frz h (fun id => lk h2 id = none) x y ∧ Fz y)) ∧ FzL h h2 xs ys
  | _, _ => False

theorem FzL.get {h h2 : Heap} : ∀ {xs ys : List AVal}, FzL h h2 xs ys → ys.length = xs.length ∧ ∀ (k : Nat) x y, xs[k]? = some x → ys[k]? = some y → y = x ∨ y = .junk ∨ (Frz h (fun id => lk h2 id = none) x y ∧ Fz y)
  | [], [], _ => ⟨rfl, fun k x y hx => by simp at hx⟩
  | x :: xs, y :: ys, f => by
    obtain ⟨h1, h2⟩ := FzL.get f.2
    refine ⟨by simp [h1], fun k a b ha hb => ?_⟩
    cases k with
    | zero => simp at ha hb; subst ha; subst hb; exact f.1
    | succ k => exact h2 k a b (by simpa using ha) (by simpa using hb)
  | [], _ :: _, f => f.elim
  | _ :: _, [], f => f.elim

theorem FzL.nil {h h2 : Heap} : FzL h h2 [] [] := trivial
theorem FzL.keep {h h2 : Heap} {x : AVal} {xs ys : List AVal} (f : FzL h h2 xs ys) : FzL h h2 (x :: xs) (x :: ys) := ⟨.inl rfl, f⟩
theorem FzL.junk {h h2 : Heap} {x : AVal} {xs ys : List AVal} (f : FzL h h2 xs ys) : FzL h h2 (x :: xs) (.junk :: ys) := ⟨.inr (.inl rfl), f⟩
theorem FzL.whole {h h2 : Heap} {id n : Nat} {ex : Bool} {c esz : Nat} {rows : List (List AVal)} {xs ys : List AVal} (hl : lk h id = some (.arr esz rows)) (hS : lk h2 id = none) (hn : rows.length = n) (hz : Fz (.sl rows none))
    (f : FzL h h2 xs ys) : FzL h h2 (.ref id n 0 n ex c :: xs) (.sl rows none :: ys) := by
  refine ⟨.inr (.inr ⟨?_, hz⟩), f⟩
  have := Frz.ref0 (h := h) (S := fun id => lk h2 id = none) (id := id) (sz := n) (base := 0) (len := n) (ex := ex) (c := c) hS hl hn (by omega)
  rw [List.drop_zero, List.take_of_length_le (by omega)] at this
  exact this

theorem fz_sl_iff (rows : List (List AVal)) (lim : Option Nat) : Fz (.sl rows lim) ↔ ∀ r, r ∈ rows → ∀ x, x ∈ r → Fz x := ⟨fun h => by cases h with | sl _ _ h => exact h, fun h => .sl _ _ h⟩

theorem SIn.freeze {n0 : Nat} {ext : Nat → Prop} {β : Nat → Option Nat} {tm tm' : List AVal} {h h2 : Heap} {nx : Nat} {a : Act} {w : World} (i : SIn n0 ext β ⟨tm, h, nx⟩ a w) (hsub : ∀ id ob, lk h2 id = some ob → lk h id = some ob)
    (hf : FzL h h2 tm tm') : SIn n0 ext β ⟨tm', h2, nx⟩ a w ∧ Goes n0 ext β h w β h2 w := by
  obtain ⟨hl, hg⟩ := hf.get
  have hlow : n0 ≤ nx := by
    rcases Nat.lt_or_ge nx n0 with h8 | h8
    · exact absurd (i.low nx h8) (Nat.lt_irrefl _)
    · exact h8
  have hwk : Weak n0 ⟨tm, h, nx⟩ ⟨tm, h2, nx⟩ := ⟨rfl, fun k x hx => .inr hx, hsub, i.nm, fun id ob ho => i.heap.nm id ob (hsub id ob ho), hlow⟩
  obtain ⟨i2, g2⟩ := i.weak hwk
  have hown2 : ∀ b, owns β h2 b → owns β h b := fun b ⟨id, ob, h1, h3⟩ => ⟨id, ob, hsub id ob h1, h3⟩
  have st : Step (fun _ => False) (cx (fun b => ext b ∨ owns β h2 b) (fun _ => none) [] w) (cx ext β h2 w) :=
    ⟨fun b o v h1 h4 => ⟨fun h3 => h1 (Or.inl h3), h4⟩, fun _ _ h => h, fun _ h => h.elim, fun _ h => h.elim⟩
  refine ⟨⟨i2.heap, by rw [i2.size]; exact hl.symm, fun k y v hy hv => ?_, fun y hy => ?_, i2.defers, i2.low⟩, g2⟩
  · have hk : k < tm.length := by rw [← hl]; exact (List.getElem?_eq_some_iff.1 hy).1
    rcases hg k tm[k] y (List.getElem?_eq_getElem hk) hy with rfl | rfl | ⟨hfz, hz⟩
    · exact i2.rel k _ v (List.getElem?_eq_getElem hk) hv
    · exact .junk v
    · have hv1 := i.rel k _ v (List.getElem?_eq_getElem hk) hv
      refine (Frz.rel (ext' := fun b => ext b ∨ owns β h2 b) i.heap (fun b hb => hb.imp (fun h => h) (hown2 b)) (fun id ob b hS hl hb hx => ?_) hfz v hv1).step st hz
      rcases hx with hx | ⟨id', ob', h3, h4⟩
      · exact (i.heap.ext b hx).2 ⟨id, ob, hl, hb⟩
      · have : id = id' := i.heap.inj id id' ob ob' b hl (hsub id' ob' h3) hb h4
        subst this
        rw [hS] at h3; cases h3
  · obtain ⟨k, hk⟩ := List.getElem?_of_mem hy
    have hk' : k < tm.length := by rw [← hl]; exact (List.getElem?_eq_some_iff.1 hk).1
    rcases hg k tm[k] y (List.getElem?_eq_getElem hk') hk with rfl | rfl | ⟨hfz, hz⟩
    · exact i.nm _ (List.getElem_mem hk')
    · exact .junk
    · exact Fz.nm hz _

section
variable {P : Program} {n0 : Nat} {all : Array Oper} {K : St → Prop} {Q : Exit → St → Prop} {k : List It}

theorem AO_freeze {rest : List Oper} {i nx : Nat} {tm tm' : List AVal} {h h2 : Heap} (hsub : ∀ id ob, lk h2 id = some ob → lk h id = some ob) (hf : FzL h h2 tm tm') (ha : AO P n0 all rest i K ⟨tm', h2, nx⟩) :
    AO P n0 all rest i K ⟨tm, h, nx⟩ := fun hd ext β a w hs Q hq =>
  let ⟨i2, g2⟩ := SIn.freeze hs hsub hf
  ha hd ext β a w i2 Q fun β' s' a' w' h1 h2 h3 => hq β' s' a' w' h1 h2 (g2.trans h3)

theorem W_freeze {c : Code} {nx : Nat} {tm tm' : List AVal} {h h2 : Heap} (hsub : ∀ id ob, lk h2 id = some ob → lk h id = some ob) (hf : FzL h h2 tm tm') (ha : AWP P n0 c (unw P n0 k Q) ⟨tm', h2, nx⟩) : AWP P n0 c (unw P n0 k Q) ⟨tm, h, nx⟩ := by
  intro ext β a w i
  obtain ⟨i2, g2⟩ := SIn.freeze i hsub hf
  exact wp_mono (ha ext β a w i2) fun _ _ _ p => p.after g2

end
end Go.AM
