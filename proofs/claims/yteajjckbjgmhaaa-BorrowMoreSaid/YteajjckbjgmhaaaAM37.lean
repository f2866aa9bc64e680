/-
  AM, part 37: more of what evaluation unfolds.
-/
import Derived.Test.YteajjckbjgmhaaaAM36
namespace Go.AM
open Go

attribute [go_sem] true_implies false_implies implies_true and_true true_and if_true if_false ite_true ite_false Bool.false_eq_true Bool.true_eq_false Bool.not_true Bool.not_false beq_self_eq_true decide_true decide_false Nat.min_eq_left Nat.min_eq_right
  bne_self_eq_false beq_true beq_false Int.natCast_nonneg Int.toNat_natCast Nat.zero_add Int.le_refl ri_length ri_all

end Go.AM
