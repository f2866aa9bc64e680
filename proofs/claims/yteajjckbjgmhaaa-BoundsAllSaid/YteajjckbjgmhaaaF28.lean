/-
  Rows of levels, for any arguments that a law may be handed.
-/
import Derived.Test.YteajjckbjgmhaaaF27
import Derived.Test.YteajjckbjgmhaaaAM26
namespace Go.Proofs.Yteajjckbjgmhaaa
open Go Go.AM
set_option linter.unusedVariables false

theorem leaf_i64 {m : Nat} {ys : List AVal} (h : Shp Try.prog m 3 ys) : ∃ n, ys = [.int .i64 n] := by
  cases m with
  | zero => exact h.elim
  | succ m =>
    simp only [Shp, Try.underlying3] at h
    obtain ⟨n, h2, _⟩ := h
    exact ⟨n, h2⟩

theorem leaf_str {m : Nat} {ys : List AVal} (h : Shp Try.prog m 9 ys) : ∃ s, ys = [.str s] := by
  cases m with
  | zero => exact h.elim
  | succ m =>
    simp only [Shp, Try.underlying9] at h
    obtain ⟨n, h2, _⟩ := h
    exact ⟨n, h2⟩

theorem level_of {m : Nat} {r : List AVal} (h : Shp Try.prog m 57 r) : ∃ b : Lv, r = fl b := by
  cases m with
  | zero => exact h.elim
  | succ m =>
    simp only [Shp, Try.underlying57] at h
    obtain ⟨parts, rfl, hp, hs⟩ := h
    match parts, hp, hs with
    | [p0, p1, p2, p3, p4, p5, p6, p7, p8, p9], _, hs =>
      obtain ⟨n0, rfl⟩ := leaf_str (hs 0 _ p0 rfl rfl)
      obtain ⟨n1, rfl⟩ := leaf_i64 (hs 1 _ p1 rfl rfl)
      obtain ⟨n2, rfl⟩ := leaf_i64 (hs 2 _ p2 rfl rfl)
      obtain ⟨n3, rfl⟩ := leaf_i64 (hs 3 _ p3 rfl rfl)
      obtain ⟨n4, rfl⟩ := leaf_i64 (hs 4 _ p4 rfl rfl)
      obtain ⟨n5, rfl⟩ := leaf_i64 (hs 5 _ p5 rfl rfl)
      obtain ⟨n6, rfl⟩ := leaf_i64 (hs 6 _ p6 rfl rfl)
      obtain ⟨n7, rfl⟩ := leaf_i64 (hs 7 _ p7 rfl rfl)
      obtain ⟨n8, rfl⟩ := leaf_i64 (hs 8 _ p8 rfl rfl)
      obtain ⟨n9, rfl⟩ := leaf_i64 (hs 9 _ p9 rfl rfl)
      exact ⟨⟨n0, n1, n2, n3, n4, n5, n6, n7, n8, n9⟩, rfl⟩

theorem rows_of {α : Type} {f : α → List AVal} {rows : List (List AVal)} (h : ∀ r, r ∈ rows → ∃ a, r = f a) : ∃ xs, rows = rf f xs := by
  induction rows with
  | nil => exact ⟨[], rfl⟩
  | cons r rows ih =>
    obtain ⟨xs, h1⟩ := ih fun r hr => h r (by simp [hr])
    obtain ⟨a, h2⟩ := h r (by simp)
    exact ⟨a :: xs, by rw [h1, h2]; rfl⟩

theorem shp_rows {α : Type} {f : α → List AVal} {m : Nat} {t e : TypeId} {x : AVal} (ht : Try.prog.underlying t = some (.slice e)) (hc : (Try.prog.cellsOf e == 0) = false) (hf : ∀ (m : Nat) r, Shp Try.prog m e r → ∃ a, r = f a) (h : Shp Try.prog m t [x]) :
    ∃ xs lim, x = .sl (rf f xs) lim ∧ xs.length ≤ maxLen := by
  cases m with
  | zero => exact h.elim
  | succ m =>
    simp only [Shp, ht] at h
    rcases h with h | ⟨rows, lim, h1, h2, h3⟩
    · simp [h] at hc
    · injection h1 with h1
      obtain ⟨xs, h4⟩ := rows_of fun r hr => hf m r (h3 r hr)
      exact ⟨xs, lim, by rw [h1, h4], by rw [h4, rf_length] at h2; exact h2⟩

theorem levels_of {m : Nat} {x : AVal} (h : Shp Try.prog m 51 [x]) : ∃ xs lim, x = .sl (rf fl xs) lim ∧ xs.length ≤ maxLen := shp_rows Try.underlying51 (by kernel_rfl) (fun _ _ => level_of) h

end Go.Proofs.Yteajjckbjgmhaaa
