/-
  AM, part 23: loops, over states in which some slots are given up.
-/
import Derived.Test.YtfbmbjfcgoahfaaAM22
namespace Go.AM
open Go

def dropL : List AVal → List AVal → Prop
  | [], [] => True
  | x :: xs, y :: ys => (y = .junk ∨ y = x) ∧ dropL xs ys
  | _, _ => False

theorem dropL_len : ∀ {xs ys : List AVal}, dropL xs ys → ys.length = xs.length
  | [], [], _ => rfl
  | _ :: _, _ :: _, h => by simp [dropL_len h.2]
  | [], _ :: _, h => h.elim
  | _ :: _, [], h => h.elim

theorem dropL_at : ∀ {xs ys : List AVal}, dropL xs ys → ∀ (i : Nat) y, ys[i]? = some y → y = .junk ∨ xs[i]? = some y
  | [], [], _, i, y, hy => by simp at hy
  | x :: xs, z :: ys, h, 0, y, hy => by
    simp at hy
    subst hy
    rcases h.1 with h1 | h1
    · exact .inl h1
    · exact .inr (by simp [h1])
  | x :: xs, z :: ys, h, i + 1, y, hy => by
    simp at hy
    have := dropL_at h.2 i y hy
    simpa using this
  | [], _ :: _, h, _, _, _ => h.elim
  | _ :: _, [], h, _, _, _ => h.elim

theorem dropL_nil : dropL [] [] := trivial
theorem dropL_keep {x : AVal} {xs ys : List AVal} (h : dropL xs ys) : dropL (x :: xs) (x :: ys) := ⟨.inr rfl, h⟩
theorem dropL_junk {x : AVal} {xs ys : List AVal} (h : dropL xs ys) : dropL (x :: xs) (.junk :: ys) := ⟨.inl rfl, h⟩

/-- Only slots are given up. -/
structure Drop (s s' : St) : Prop where
  tmps : dropL s.tmps s'.tmps
  h : s'.h = s.h
  nx : s'.nx = s.nx

theorem Drop.weak {n0 : Nat} {ext : Nat → Prop} {β : Nat → Option Nat} {s s' : St} {a : Act} {w : World} (d : Drop s s') (i : SIn n0 ext β s a w) : Weak n0 s s' := by
  refine ⟨dropL_len d.tmps, dropL_at d.tmps, fun id o h => by rw [d.h] at h; exact h, fun x hx => ?_, fun id o h => by rw [d.h] at h; rw [d.nx]; exact i.heap.nm id o h, ?_⟩
  · obtain ⟨k, hk⟩ := List.getElem?_of_mem hx
    rcases dropL_at d.tmps k x hk with h | h
    · subst h; exact .junk
    · rw [d.nx]; exact i.nm x (List.mem_of_getElem? h)
  · rw [d.nx]
    rcases Nat.eq_zero_or_pos n0 with h | h
    · omega
    · have := i.low (n0 - 1) (by omega)
      have : n0 - 1 < s.nx := this
      omega

section
variable {P : Program} {n0 : Nat} {Q : Exit → St → Prop} {s : St} {k : List It}

/-- A loop: what holds at the beginning of a round, with a number that falls. -/
theorem W_while {c : Code} (I : Nat → St → Prop) (n : Nat) (s' : St) (h0 : I n s') (hd : Drop s s')
    (round : ∀ n s, I n s → AWP P n0 c (unw P n0 [] (thenQ (fun s' => ∃ m, m < n ∧ ∃ s'', I m s'' ∧ Drop s' s'') (unw P n0 k Q))) s) : AWP P n0 (.loop c) (unw P n0 k Q) s := by
  intro ext β a w i
  obtain ⟨i', g'⟩ := i.weak (hd.weak i)
  refine wp_loop_n (P := P) (fun m a' w' => ∃ β' s', I m s' ∧ SIn n0 ext β' s' a' w' ∧ Goes n0 ext β s.h w β' s'.h w') ?_ n a w ⟨β, s', h0, i', g'⟩
  rintro m a' w' ⟨β', s', hI, i', g⟩
  refine wp_mono (round m s' hI ext β' a' w' i') ?_
  rintro e a2 w2 ⟨β2, s2, q, i2, g2⟩
  cases e with
  | normal =>
    obtain ⟨m', hm, s3, hI3, k⟩ := q
    obtain ⟨i3, g3⟩ := i2.weak (k.weak i2)
    exact ⟨m', hm, β2, s3, hI3, i3, (g.trans g2).trans g3⟩
  | exit id => exact ⟨β2, s2, q, i2, g.trans g2⟩
  | goto l => exact ⟨β2, s2, q, i2, g.trans g2⟩
  | ret => exact ⟨β2, s2, q, i2, g.trans g2⟩
  | panic ch => exact ⟨β2, s2, q, i2, g.trans g2⟩
  | outgrown => exact ⟨β2, s2, q, i2, g.trans g2⟩

theorem L_exit {F : St → Prop} {id : Nat} (h : unw P n0 k Q (.exit id) s) : unw P n0 [] (thenQ F (unw P n0 k Q)) (.exit id) s := h
theorem L_ret {F : St → Prop} (h : unw P n0 k Q .ret s) : unw P n0 [] (thenQ F (unw P n0 k Q)) .ret s := h
theorem L_next {F : St → Prop} (h : F s) : unw P n0 [] (thenQ F (unw P n0 k Q)) .normal s := h

/-- Slots are given up, and something is known of what stays. -/
theorem W_drop {c : Code} (s' : St) (hd : Drop s s') (h : AWP P n0 c (unw P n0 k Q) s') : AWP P n0 c (unw P n0 k Q) s := by
  intro ext β a w i
  obtain ⟨i', g⟩ := i.weak (hd.weak i)
  exact wp_mono (h ext β a w i') fun _ _ _ p => p.after g

end
end Go.AM
