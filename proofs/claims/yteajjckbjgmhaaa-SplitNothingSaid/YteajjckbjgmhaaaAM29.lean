/-
  AM, part 29: drawn rows whose new objects' numbers are not known.
-/
import Derived.Test.YteajjckbjgmhaaaAM28
namespace Go.AM
open Go

/-- Only objects that were there are looked at. -/
theorem indepB_old {n n0 M m : Nat} {Pr : List (List Nat)} {tc : List (Bool × List Nat)} (hm : M ≤ m) (hn : m ≤ n0) (h : indepB n M Pr tc = true) (ho : (tc.all fun e => e.2.all fun j => decide (j < M)) = true) : indepB n n0 Pr tc = true := by
  refine indepB_shift hm hn h ?_
  rw [List.all_eq_true] at ho
  refine (List.map_congr_left (g := id) fun e he => ?_).trans (List.map_id _)
  have := ho e he
  rw [List.all_eq_true] at this
  refine Prod.ext rfl ?_
  refine (List.map_congr_left (g := id) fun j hj => ?_).trans (List.map_id _)
  have := this j hj
  simp only [decide_eq_true_eq] at this
  simp [this]

end Go.AM
