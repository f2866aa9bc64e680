/-
  The laws of layer 3, for any arguments that a law may be handed.
-/
import Derived.Test.YteajjckbjgmhaaaF6
import Derived.Test.YteajjckbjgmhaaaF7
import Derived.Test.YteajjckbjgmhaaaAM26
namespace Go.Proofs.Yteajjckbjgmhaaa
open Go Go.AM
set_option linter.unusedVariables false

theorem ints_of {m : Nat} {x : AVal} (h : Shp Try.prog m 22 [x]) : ∃ xs lim, x = .sl (ri xs) lim ∧ xs.length ≤ maxLen ∧ ∀ x, x ∈ xs → -9223372036854775808 ≤ x ∧ x < 9223372036854775808 :=
  shp_ints Try.underlying22 Try.underlying3 (by kernel_rfl) h

theorem spreadAll_shp (a : Int) {x1 x2 x3 : AVal} {m1 m2 m3 : Nat} (h1 : Shp Try.prog m1 22 [x1]) (h2 : Shp Try.prog m2 22 [x2]) (h3 : Shp Try.prog m3 22 [x3]) : PCall Try.prog 3 [.int .i64 a, x1, x2, x3] (· = .bool true) := by
  obtain ⟨xs, l1, rfl, b1, _⟩ := ints_of h1
  obtain ⟨ys, l2, rfl, b2, _⟩ := ints_of h2
  obtain ⟨zs, l3, rfl, b3, _⟩ := ints_of h3
  exact spreadAll_ok a xs ys zs l1 l2 l3 b1 b2 b3

theorem spreadWhole_shp (a : Int) {x1 x2 x3 : AVal} {m1 m2 m3 : Nat} (h1 : Shp Try.prog m1 22 [x1]) (h2 : Shp Try.prog m2 22 [x2]) (h3 : Shp Try.prog m3 22 [x3]) : PCall Try.prog 4 [.int .i64 a, x1, x2, x3] (· = .bool true) := by
  obtain ⟨xs, l1, rfl, b1, _⟩ := ints_of h1
  obtain ⟨ys, l2, rfl, b2, _⟩ := ints_of h2
  obtain ⟨zs, l3, rfl, b3, _⟩ := ints_of h3
  exact spreadWhole_ok a xs ys zs l1 l2 l3 b1 b2 b3

theorem spreadFair_shp (a : Int) {x1 x2 x3 : AVal} {m1 m2 m3 : Nat} (h1 : Shp Try.prog m1 22 [x1]) (h2 : Shp Try.prog m2 22 [x2]) (h3 : Shp Try.prog m3 22 [x3]) : PCall Try.prog 5 [.int .i64 a, x1, x2, x3] (· = .bool true) := by
  obtain ⟨xs, l1, rfl, b1, _⟩ := ints_of h1
  obtain ⟨ys, l2, rfl, b2, _⟩ := ints_of h2
  obtain ⟨zs, l3, rfl, b3, _⟩ := ints_of h3
  exact spreadFair_ok a xs ys zs l1 l2 l3 b1 b2 b3

theorem spreadMore_shp (a : Int) (ha : -9223372036854775808 ≤ a) {x1 x2 x3 : AVal} {m1 m2 m3 : Nat} (h1 : Shp Try.prog m1 22 [x1]) (h2 : Shp Try.prog m2 22 [x2]) (h3 : Shp Try.prog m3 22 [x3]) : PCall Try.prog 6 [.int .i64 a, x1, x2, x3] (· = .bool true) := by
  obtain ⟨xs, l1, rfl, b1, _⟩ := ints_of h1
  obtain ⟨ys, l2, rfl, b2, _⟩ := ints_of h2
  obtain ⟨zs, l3, rfl, b3, _⟩ := ints_of h3
  exact spreadMore_ok a xs ys zs l1 l2 l3 ha b1 b2 b3

theorem spreadEnds_shp {x1 x2 x3 : AVal} {m1 m2 m3 : Nat} (h1 : Shp Try.prog m1 22 [x1]) (h2 : Shp Try.prog m2 22 [x2]) (h3 : Shp Try.prog m3 22 [x3]) : PCall Try.prog 7 [x1, x2, x3] (· = .bool true) := by
  obtain ⟨xs, l1, rfl, b1, _⟩ := ints_of h1
  obtain ⟨ys, l2, rfl, b2, _⟩ := ints_of h2
  obtain ⟨zs, l3, rfl, b3, _⟩ := ints_of h3
  exact spreadEnds_ok xs ys zs l1 l2 l3 b1 b2 b3

theorem spreadSame_shp (a : Int) {x1 x2 x3 : AVal} {m1 m2 m3 : Nat} (h1 : Shp Try.prog m1 22 [x1]) (h2 : Shp Try.prog m2 22 [x2]) (h3 : Shp Try.prog m3 22 [x3]) : PCall Try.prog 8 [.int .i64 a, x1, x2, x3] (· = .bool true) := by
  obtain ⟨xs, l1, rfl, b1, _⟩ := ints_of h1
  obtain ⟨ys, l2, rfl, b2, _⟩ := ints_of h2
  obtain ⟨zs, l3, rfl, b3, _⟩ := ints_of h3
  exact spreadSame_ok a xs ys zs l1 l2 l3 b1 b2 b3

end Go.Proofs.Yteajjckbjgmhaaa
