/-
  AM, part 37: more of what evaluation unfolds.
-/
import Derived.Test.YteajjckbjgmhaaaAM36
namespace Go.AM
open Go

attribute [go_sem] true_implies false_implies implies_true and_true true_and if_true if_false ite_true ite_false Bool.false_eq_true Bool.true_eq_false Bool.not_true Bool.not_false beq_self_eq_true decide_true decide_false Nat.min_eq_left Nat.min_eq_right
  bne_self_eq_false beq_true beq_false Int.natCast_nonneg Int.toNat_natCast Nat.zero_add Int.le_refl ri_length ri_all

section
variable {P : Program} {all : Array Oper} {K : St → Prop}

/-- An operation that looks at no cell, in a drawn row that makes no object longer. -/
theorem D_adrE {nx : Nat} {o : Oper} {rest : List Oper} {i i' : Nat} {tm tm' : List AVal} {hp hp' : Heap} {tc tc' : List (Bool × List Nat)} {y : AVal} (ha : adrOp o = true) (hna : all.toList.all notApp = true) (hg : guardA all tm o = some true) (hl : ∀ j, j ∈ touched tm o → j < nx)
    (hs : astep P tm hp (nx + i) o = some (y, hp')) (ht : putT tm o.dst y = tm') (hn : i + 1 = i') (hc : tc ++ [(false, [])] = tc') (h : DW P all nx K rest i' tm' hp tc') : DW P all nx K (o :: rest) i tm hp tc := by
  subst ht
  subst hn
  subst hc
  exact fun hd => let ⟨ho, hd'⟩ := drop_cons hd; .adr i tm hp tc o y hp' ho hg ha (by rw [← Array.all_toList]; exact hna) hl hs (h hd')

theorem D_admE {nx : Nat} {o : Oper} {rest : List Oper} {i i' : Nat} {tm tm' : List AVal} {hp : Heap} {tc tc' : List (Bool × List Nat)} {t : Tmp} {y : AVal} (hop : mvT o.op = some t) (ha : adrOp o = true) (hna : all.toList.all notApp = true) (hg : guardA all tm o = some true)
    (hl : ∀ j, j ∈ touched tm o → j < nx) (hy : tm[t]? = some y) (ht : putT tm o.dst y = tm') (hn : i + 1 = i') (hc : tc ++ [(false, [])] = tc') (h : DW P all nx K rest i' tm' hp tc') : DW P all nx K (o :: rest) i tm hp tc :=
  D_adrE ha hna hg hl (astep_mv hop hy) ht hn hc h

end
end Go.AM
