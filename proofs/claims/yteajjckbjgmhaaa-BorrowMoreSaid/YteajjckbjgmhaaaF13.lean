/-
  The laws of layer 20, for any arguments that a law may be handed.
-/
import Derived.Test.YteajjckbjgmhaaaF12
import Derived.Test.YteajjckbjgmhaaaAM26
namespace Go.Proofs.Yteajjckbjgmhaaa
open Go Go.AM
set_option linter.unusedVariables false

theorem leaf_i64 {m : Nat} {ys : List AVal} (h : Shp Try.prog m 3 ys) : ∃ n, ys = [.int .i64 n] := by
  cases m with
  | zero => exact h.elim
  | succ m =>
    simp only [Shp, Try.underlying3] at h
    obtain ⟨n, h2, _⟩ := h
    exact ⟨n, h2⟩

theorem bound_of {m : Nat} {r : List AVal} (h : Shp Try.prog m 39 r) : ∃ b : Bd, r = fb b := by
  cases m with
  | zero => exact h.elim
  | succ m =>
    simp only [Shp, Try.underlying39] at h
    obtain ⟨parts, rfl, hp, hs⟩ := h
    match parts, hp, hs with
    | [p0, p1, p2], _, hs =>
      obtain ⟨n0, rfl⟩ := leaf_i64 (hs 0 _ p0 rfl rfl)
      obtain ⟨n1, rfl⟩ := leaf_i64 (hs 1 _ p1 rfl rfl)
      obtain ⟨n2, rfl⟩ := leaf_i64 (hs 2 _ p2 rfl rfl)
      exact ⟨(n0, n1, n2), rfl⟩

theorem demand_of {m : Nat} {r : List AVal} (h : Shp Try.prog m 44 r) : ∃ b : Dm, r = fd b := by
  cases m with
  | zero => exact h.elim
  | succ m =>
    simp only [Shp, Try.underlying44] at h
    obtain ⟨parts, rfl, hp, hs⟩ := h
    match parts, hp, hs with
    | [p0, p1], _, hs =>
      obtain ⟨n0, rfl⟩ := leaf_i64 (hs 0 _ p0 rfl rfl)
      obtain ⟨n1, rfl⟩ := leaf_i64 (hs 1 _ p1 rfl rfl)
      exact ⟨(n0, n1), rfl⟩

theorem rows_of {α : Type} {f : α → List AVal} {rows : List (List AVal)} (h : ∀ r, r ∈ rows → ∃ a, r = f a) : ∃ xs, rows = rf f xs := by
  induction rows with
  | nil => exact ⟨[], rfl⟩
  | cons r rows ih =>
    obtain ⟨xs, h1⟩ := ih fun r hr => h r (by simp [hr])
    obtain ⟨a, h2⟩ := h r (by simp)
    exact ⟨a :: xs, by rw [h1, h2]; rfl⟩

theorem shp_rows {α : Type} {f : α → List AVal} {m : Nat} {t e : TypeId} {x : AVal} (ht : Try.prog.underlying t = some (.slice e)) (hc : (Try.prog.cellsOf e == 0) = false) (hf : ∀ (m : Nat) r, Shp Try.prog m e r → ∃ a, r = f a) (h : Shp Try.prog m t [x]) :
    ∃ xs lim, x = .sl (rf f xs) lim ∧ xs.length ≤ maxLen := by
  cases m with
  | zero => exact h.elim
  | succ m =>
    simp only [Shp, ht] at h
    rcases h with h | ⟨rows, lim, h1, h2, h3⟩
    · simp [h] at hc
    · injection h1 with h1
      obtain ⟨xs, h4⟩ := rows_of fun r hr => hf m r (h3 r hr)
      exact ⟨xs, lim, by rw [h1, h4], by rw [h4, rf_length] at h2; exact h2⟩

theorem bounds_of {m : Nat} {x : AVal} (h : Shp Try.prog m 33 [x]) : ∃ xs lim, x = .sl (rf fb xs) lim ∧ xs.length ≤ maxLen := shp_rows Try.underlying33 (by kernel_rfl) (fun _ _ => bound_of) h
theorem demands_of {m : Nat} {x : AVal} (h : Shp Try.prog m 34 [x]) : ∃ xs lim, x = .sl (rf fd xs) lim ∧ xs.length ≤ maxLen := shp_rows Try.underlying34 (by kernel_rfl) (fun _ _ => demand_of) h
theorem ints20_of {m : Nat} {x : AVal} (h : Shp Try.prog m 22 [x]) : ∃ xs lim, x = .sl (ri xs) lim ∧ xs.length ≤ maxLen :=
  let ⟨xs, lim, h1, h2, _⟩ := shp_ints Try.underlying22 Try.underlying3 (by kernel_rfl) h; ⟨xs, lim, h1, h2⟩

theorem borrowAll_shp (a : Int) {x1 x2 : AVal} {m1 m2 : Nat} (h1 : Shp Try.prog m1 33 [x1]) (h2 : Shp Try.prog m2 34 [x2]) : PCall Try.prog 9 [.int .i64 a, x1, x2] (· = .bool true) := by
  obtain ⟨xs, l1, rfl, b1⟩ := bounds_of h1
  obtain ⟨ys, l2, rfl, b2⟩ := demands_of h2
  exact borrowAll_ok a xs ys l1 l2 b1 b2

theorem borrowLent_shp {x1 x2 : AVal} {m1 m2 : Nat} (h1 : Shp Try.prog m1 33 [x1]) (h2 : Shp Try.prog m2 22 [x2]) : PCall Try.prog 10 [x1, x2] (· = .bool true) := by
  obtain ⟨xs, l1, rfl, b1⟩ := bounds_of h1
  obtain ⟨ys, l2, rfl, b2⟩ := ints20_of h2
  exact borrowLent_ok xs ys l1 l2 b1 b2

theorem borrowMore_shp (a w k : Int) {x1 x2 : AVal} {m1 m2 : Nat} (h1 : Shp Try.prog m1 33 [x1]) (h2 : Shp Try.prog m2 34 [x2]) : PCall Try.prog 11 [.int .i64 a, x1, x2, .int .i64 w, .int .i64 k] (· = .bool true) := by
  obtain ⟨xs, l1, rfl, b1⟩ := bounds_of h1
  obtain ⟨ys, l2, rfl, b2⟩ := demands_of h2
  exact borrowMore_ok a xs ys l1 l2 w k b1 b2

end Go.Proofs.Yteajjckbjgmhaaa
