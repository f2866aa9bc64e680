/-
  The laws of layer 2, for any arguments that a law may be handed.
-/
import Derived.Test.YteajjckbjgmhaaaF16
import Derived.Test.YteajjckbjgmhaaaF17
import Derived.Test.YteajjckbjgmhaaaAM26
namespace Go.Proofs.Yteajjckbjgmhaaa
open Go Go.AM
set_option linter.unusedVariables false

theorem ints02_of {m : Nat} {x : AVal} (h : Shp Try.prog m 22 [x]) : ∃ xs lim, x = .sl (ri xs) lim ∧ xs.length ≤ maxLen ∧ ∀ x, x ∈ xs → -9223372036854775808 ≤ x ∧ x < 9223372036854775808 :=
  shp_ints Try.underlying22 Try.underlying3 (by kernel_rfl) h

theorem splitWhole_shp (a : Int) {x1 : AVal} {m1 : Nat} (h1 : Shp Try.prog m1 22 [x1]) : PCall Try.prog 13 [.int .i64 a, x1] (· = .bool true) := by
  obtain ⟨xs, l1, rfl, b1, _⟩ := ints02_of h1
  exact splitWhole_ok a xs l1 b1

theorem splitNothing_shp (a : Int) {x1 : AVal} {m1 : Nat} (h1 : Shp Try.prog m1 22 [x1]) : PCall Try.prog 17 [.int .i64 a, x1] (· = .bool true) := by
  obtain ⟨xs, l1, rfl, b1, _⟩ := ints02_of h1
  exact splitNothing_ok a xs l1 b1

end Go.Proofs.Yteajjckbjgmhaaa
