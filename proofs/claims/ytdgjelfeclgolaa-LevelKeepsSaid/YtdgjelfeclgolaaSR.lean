/-
  Ranges that change places, and turning by them; in plain Lean.
-/
import Derived.Test.YtdgjelfeclgolaaSS
namespace Go.AM
set_option linter.unusedVariables false
variable {α : Type} [Inhabited α]

theorem swp_at (d : Array α) {i j : Nat} (hi : i < d.size) (hj : j < d.size) (k : Nat) : (Sort.swp d i j)[k]! = if k = j then d[i]! else if k = i then d[j]! else d[k]! := by
  unfold Sort.swp
  simp only [getElem!_def, Array.getElem?_setIfInBounds, Array.size_setIfInBounds]
  by_cases h1 : k = j
  · subst h1; simp [hj]
  · by_cases h2 : k = i
    · subst h2; simp [hi, Ne.symm h1, h1]
    · simp [Ne.symm h1, Ne.symm h2, h1, h2]

/-- 'for ; i < n; i++ { swap a + i, b + i }'. -/
def swrL (a b n i : Nat) (d : Array α) : Array α := if i < n then swrL a b n (i + 1) (Sort.swp d (a + i) (b + i)) else d
termination_by n - i

theorem swrL_size (a b n : Nat) : ∀ (f i : Nat) (d : Array α), n - i = f → (swrL a b n i d).size = d.size
  | 0, i, d, h => by rw [swrL, if_neg (by omega)]
  | f + 1, i, d, h => by rw [swrL, if_pos (by omega), swrL_size a b n f (i + 1) _ (by omega), Sort.size_swp]

theorem swrL_get {a b n : Nat} (h1 : a + n ≤ b) : ∀ (f i : Nat) (d : Array α), n - i = f → b + n ≤ d.size → ∀ k, (swrL a b n i d)[k]! = if a + i ≤ k ∧ k < a + n then d[k - a + b]! else if b + i ≤ k ∧ k < b + n then d[k - b + a]! else d[k]!
  | 0, i, d, h, hb, k => by rw [swrL, if_neg (by omega), if_neg (by omega), if_neg (by omega)]
  | f + 1, i, d, h, hb, k => by
    rw [swrL, if_pos (by omega), swrL_get h1 f (i + 1) _ (by omega) (by rw [Sort.size_swp]; exact hb)]
    have g := swp_at d (i := a + i) (j := b + i) (by omega) (by omega)
    by_cases c1 : a + (i + 1) ≤ k ∧ k < a + n
    · rw [if_pos c1, if_pos (by omega), g, if_neg (by omega), if_neg (by omega)]
    · rw [if_neg c1]
      by_cases c2 : b + (i + 1) ≤ k ∧ k < b + n
      · rw [if_pos c2, if_neg (by omega), if_pos (by omega), g, if_neg (by omega), if_neg (by omega)]
      · rw [if_neg c2, g]
        by_cases e1 : k = b + i
        · rw [if_pos e1, if_neg (by omega), if_pos (by omega)]
          congr 1; omega
        · rw [if_neg e1]
          by_cases e2 : k = a + i
          · rw [if_pos e2, if_pos (by omega)]
            congr 1; omega
          · rw [if_neg e2, if_neg (by omega), if_neg (by omega)]

theorem at_eq {d : Array α} {i j : Nat} (h : i = j) : d[i]! = d[j]! := by rw [h]

theorem rot_end {d : Array α} {i m : Nat} (h1 : i ≤ m) (h2 : m + i ≤ d.size) : swrL (m - i) m i 0 d = rotA d (m - i) m (m + i) := by
  refine rot_eq (by omega) (by omega) h2 (swrL_size _ _ _ _ _ _ rfl) fun k hk => ?_
  rw [swrL_get (by omega) _ _ _ rfl (by omega)]
  repeat' split
  all_goals first | rfl | exact at_eq (by omega) | (exfalso; omega)

theorem rot_left {d : Array α} {i j m : Nat} (h1 : i ≤ m) (h2 : m + j ≤ d.size) (h : j < i) : rotA (swrL (m - i) m j 0 d) (m - (i - j)) m (m + j) = rotA d (m - i) m (m + j) := by
  have hs := swrL_size (m - i) m j _ 0 d rfl
  have g := swrL_get (a := m - i) (b := m) (n := j) (by omega) _ 0 d rfl (by omega)
  refine rot_eq (by omega) (by omega) h2 (by rw [rot_size _ (by omega) (by omega) (by omega)]; exact hs) fun k hk => ?_
  rw [rot_get _ (by omega) (by omega) (by omega) (by omega), g, g, g]
  clear hs g
  repeat' split
  all_goals first | rfl | exact at_eq (by omega) | (exfalso; omega)

theorem rot_right {d : Array α} {i j m : Nat} (h1 : i ≤ m) (h2 : m + j ≤ d.size) (h : i < j) : rotA (swrL (m - i) (m + j - i) i 0 d) (m - i) m (m + (j - i)) = rotA d (m - i) m (m + j) := by
  have hs := swrL_size (m - i) (m + j - i) i _ 0 d rfl
  have g := swrL_get (a := m - i) (b := m + j - i) (n := i) (by omega) _ 0 d rfl (by omega)
  refine rot_eq (by omega) (by omega) h2 (by rw [rot_size _ (by omega) (by omega) (by omega)]; exact hs) fun k hk => ?_
  rw [rot_get _ (by omega) (by omega) (by omega) (by omega), g, g, g]
  clear hs g
  repeat' split
  all_goals first | rfl | exact at_eq (by omega) | (exfalso; omega)
end Go.AM
