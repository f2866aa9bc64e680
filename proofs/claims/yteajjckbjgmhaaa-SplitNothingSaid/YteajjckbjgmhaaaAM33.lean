/-
  AM, part 33: the commonest operation, by itself.
-/
import Derived.Test.YteajjckbjgmhaaaAM32
namespace Go.AM
open Go

/-- The slot that is only handed on. -/
def mvT : Op → Option Tmp
  | .move (.tmp t) => some t
  | .assign (.tmp t) => some t
  | _ => none

theorem astep_mv {P : Program} {tm : List AVal} {hp : Heap} {nx : Nat} {o : Oper} {t : Tmp} {y : AVal} (hop : mvT o.op = some t) (hy : tm[t]? = some y) : astep P tm hp nx o = some (y, hp) := by
  obtain ⟨dst, op, type, pos, after, guard⟩ := o
  have he : ev tm (.tmp t) = y := by simp only [ev, List.getD_eq_getElem?_getD, hy, Option.getD_some]
  cases op <;> simp only [mvT] at hop <;> try (cases hop; done)
  · rename_i x
    cases x <;> simp at hop
    subst hop
    simp only [astep, he]
  · rename_i x
    cases x <;> simp at hop
    subst hop
    simp only [astep, he]

section
variable {P : Program} {n0 : Nat} {all : Array Oper} {K : St → Prop}

theorem AO_mvE {o : Oper} {rest : List Oper} {i nx nx' : Nat} {tm tm' : List AVal} {hp : Heap} {t : Tmp} {y : AVal} (hop : mvT o.op = some t) (hg : guardA all tm o = some true) (hy : tm[t]? = some y)
    (ht : putT tm o.dst y = tm') (hn : nx + 1 = nx') (h : AO P n0 all rest (i + 1) K ⟨tm', hp, nx'⟩) : AO P n0 all (o :: rest) i K ⟨tm, hp, nx⟩ := AO_stepE hg (astep_mv hop hy) ht hn h

theorem D_mvE {nx : Nat} {o : Oper} {rest : List Oper} {i i' : Nat} {tm tm' : List AVal} {hp : Heap} {tc tc' : List (Bool × List Nat)} {t : Tmp} {y : AVal} (hop : mvT o.op = some t) (hg : guardA all tm o = some true) (hy : tm[t]? = some y)
    (ht : putT tm o.dst y = tm') (hn : i + 1 = i') (hc : tc ++ [(isWriter o, touched tm o)] = tc') (h : DW P all nx K rest i' tm' hp tc') : DW P all nx K (o :: rest) i tm hp tc := D_stepE hg (astep_mv hop hy) ht hn hc h

end
end Go.AM
