/-
  AM, part 44: lists, as the walks of loops look at them.
-/
import Derived.Test.YtfbmbjfcgoahfaaAM43
set_option linter.unusedVariables false
namespace Go.AM
open Go

section
variable {α : Type}

/-- The first place at which something holds; -1: nowhere. -/
def idx (p : α → Bool) (l : List α) : Int := match l.findIdx? p with | some i => i | none => -1

theorem some_of_lt {l : List α} {i : Nat} (h : i < l.length) : ∃ x, l[i]? = some x := ⟨l[i], List.getElem?_eq_getElem h⟩

theorem idx_at {p : α → Bool} {l : List α} {i : Nat} {x : α} (hx : l[i]? = some x) (hp : p x = true) (hno : ∀ k y, k < i → l[k]? = some y → p y = false) : idx p l = i := by
  obtain ⟨hi, hx'⟩ := List.getElem?_eq_some_iff.1 hx
  have : l.findIdx? p = some i := by
    rw [List.findIdx?_eq_some_iff_getElem]
    refine ⟨hi, by rw [hx']; exact hp, fun j hj => ?_⟩
    have := hno j l[j] hj (List.getElem?_eq_getElem (by omega))
    simp [this]
  rw [idx, this]

theorem idx_none {p : α → Bool} {l : List α} (hno : ∀ k y, k < l.length → l[k]? = some y → p y = false) : idx p l = -1 := by
  have : l.findIdx? p = none := by
    rw [List.findIdx?_eq_none_iff]
    intro x hx
    obtain ⟨k, hk⟩ := List.getElem?_of_mem hx
    exact hno k x (List.getElem?_eq_some_iff.1 hk).1 hk
  rw [idx, this]

/-- Found, or nowhere. -/
theorem idx_cases (p : α → Bool) (l : List α) : (∃ i x, idx p l = (i : Nat) ∧ i < l.length ∧ l[i]? = some x ∧ p x = true ∧ l.any p = true ∧ ∀ k y, k < i → l[k]? = some y → p y = false) ∨ (idx p l = -1 ∧ l.any p = false ∧ ∀ x, x ∈ l → p x = false) := by
  unfold idx
  cases h : l.findIdx? p with
  | some i =>
    rw [List.findIdx?_eq_some_iff_getElem] at h
    obtain ⟨hi, h1, h2⟩ := h
    refine .inl ⟨i, l[i], rfl, hi, List.getElem?_eq_getElem hi, h1, List.any_eq_true.2 ⟨_, List.getElem_mem hi, h1⟩, fun k y hk hy => ?_⟩
    obtain ⟨hk', rfl⟩ := List.getElem?_eq_some_iff.1 hy
    have := h2 k hk
    simpa using this
  | none =>
    rw [List.findIdx?_eq_none_iff] at h
    exact .inr ⟨rfl, List.any_eq_false.2 fun x hx => by simp [h x hx], h⟩

theorem no_step {p : α → Bool} {l : List α} {i : Nat} {x : α} (hx : l[i]? = some x) (hp : p x = false) (hno : ∀ k y, k < i → l[k]? = some y → p y = false) : ∀ k y, k < i + 1 → l[k]? = some y → p y = false := fun k y hk hy => by
  rcases Nat.lt_or_ge k i with h | h
  · exact hno k y h hy
  · obtain rfl : k = i := by omega
    rw [hx] at hy; injection hy with hy; subst hy; exact hp

theorem idx_ge (p : α → Bool) (l : List α) : decide (idx p l ≥ 0) = l.any p := by
  rcases idx_cases p l with ⟨i, x, h1, _, _, _, h2, _⟩ | ⟨h1, h2, _⟩
  · rw [h1, h2]; exact decide_eq_true (show (0 : Int) ≤ (i : Int) by omega)
  · rw [h1, h2]; exact decide_eq_false (show ¬ (0 : Int) ≤ -1 by omega)

theorem any_at {p : α → Bool} {l : List α} {i : Nat} {x : α} (hx : l[i]? = some x) (hp : p x = true) : l.any p = true := List.any_eq_true.2 ⟨x, List.mem_of_getElem? hx, hp⟩

theorem any_none {p : α → Bool} {l : List α} (hno : ∀ k y, k < l.length → l[k]? = some y → p y = false) : l.any p = false := by
  rw [List.any_eq_false]
  intro x hx
  obtain ⟨k, hk⟩ := List.getElem?_of_mem hx
  simp [hno k x (List.getElem?_eq_some_iff.1 hk).1 hk]

theorem all_none {p : α → Bool} {l : List α} (h : ∀ k y, k < l.length → l[k]? = some y → p y = true) : l.all p = true := by
  rw [List.all_eq_true]
  intro x hx
  obtain ⟨k, hk⟩ := List.getElem?_of_mem hx
  exact h k x (List.getElem?_eq_some_iff.1 hk).1 hk

theorem all_at {p : α → Bool} {l : List α} {i : Nat} {x : α} (hx : l[i]? = some x) (hp : p x = false) : l.all p = false := List.all_eq_false.2 ⟨x, List.mem_of_getElem? hx, by simp [hp]⟩

theorem yes_step {p : α → Bool} {l : List α} {i : Nat} {x : α} (hx : l[i]? = some x) (hp : p x = true) (hno : ∀ k y, k < i → l[k]? = some y → p y = true) : ∀ k y, k < i + 1 → l[k]? = some y → p y = true := fun k y hk hy => by
  rcases Nat.lt_or_ge k i with h | h
  · exact hno k y h hy
  · obtain rfl : k = i := by omega
    rw [hx] at hy; injection hy with hy; subst hy; exact hp

theorem sum_take {f : α → Int} {l : List α} {i : Nat} {x : α} (h : l[i]? = some x) : ((l.take (i + 1)).map f).sum = ((l.take i).map f).sum + f x := by
  rw [List.take_add_one, h]
  simp

theorem take_snoc {l : List α} {i : Nat} {x : α} (h : l[i]? = some x) : l.take (i + 1) = l.take i ++ [x] := by
  rw [List.take_add_one, h]
  rfl

theorem any_drop {p : α → Bool} {l : List α} {i : Nat} {x : α} (h : l[i]? = some x) : (l.drop i).any p = (p x || (l.drop (i + 1)).any p) := by
  obtain ⟨hi, rfl⟩ := List.getElem?_eq_some_iff.1 h
  rw [List.drop_eq_getElem_cons hi, List.any_cons]

theorem rws_back [Enc α] {l : List α} {i : Nat} {x : α} (h : l[i]? = some x) : rws (l.drop (i + 1)).reverse ++ [Enc.enc x] = rws (l.drop i).reverse := by
  obtain ⟨hi, rfl⟩ := List.getElem?_eq_some_iff.1 h
  rw [List.drop_eq_getElem_cons hi, List.reverse_cons, rws_snoc]

end

/-- The spare room of the list in one slot is forgotten. -/
theorem W_forgetT {β : Type} [Enc β] {P : Program} {n0 : Nat} {Q : Exit → St → Prop} {k : List It} {c : Code} {tm tm' : List AVal} {hp : Heap} {nx : Nat} {xs : List (List AVal)} {lim : Option Nat} (t : Nat) (l : List β) (ht : tm[t]? = some (.sl xs lim)) (e : xs = rws l) (e1 : tm.set t (.sl (rws l) none) = tm')
    (h : AWP P n0 c (unw P n0 k Q) ⟨tm', hp, nx⟩) : AWP P n0 c (unw P n0 k Q) ⟨tm, hp, nx⟩ := by
  subst e
  subst e1
  have all : ∀ xs : List AVal, FzL hp hp xs xs := fun xs => by
    induction xs with
    | nil => exact FzL.nil
    | cons x xs ih => exact FzL.keep ih
  have at_ : ∀ (xs : List AVal) (t : Nat), xs[t]? = some (.sl (rws l) lim) → FzL hp hp xs (xs.set t (.sl (rws l) none)) := fun xs => by
    induction xs with
    | nil => intro t h; simp at h
    | cons x xs ih =>
      intro t h
      cases t with
      | zero => simp at h; subst h; exact FzL.forget (rws_fz l none) (all xs)
      | succ t => exact FzL.keep (ih t (by simpa using h))
  exact W_freeze (fun _ _ h => h) (at_ tm t ht) h

theorem rd_boolT {P : Program} {t : TypeId} (ht : P.underlying t = some .bool) : RdC P t (fun ys => ∃ b, ys = [.bool b] ∧ True) := (rd_bool ht).mono fun _ ⟨b, h⟩ => ⟨b, h, trivial⟩

end Go.AM
