/-
  AM, part 46: the heap's looking up and setting, one step at a time; calls in rows that only read.
-/
import Derived.Test.YtfbmbjfcgoahfaaAM45
set_option linter.unusedVariables false
namespace Go.AM
open Go

/-- Ahead of the `if` (else simp's time doubles with each object of the heap). -/
theorem lk_hit {i j : Nat} {o : Ob} {h : Heap} (e : i = j) : lk ((i, o) :: h) j = some o := by simp [lk, e]
theorem lk_miss {i j : Nat} {o : Ob} {h : Heap} (e : ¬ i = j) : lk ((i, o) :: h) j = lk h j := by simp [lk, e]
theorem hset_hit {i j : Nat} {o q : Ob} {h : Heap} (e : i = j) : hset ((i, o) :: h) j q = (i, q) :: h := by simp [hset, e]
theorem hset_miss {i j : Nat} {o q : Ob} {h : Heap} (e : ¬ i = j) : hset ((i, o) :: h) j q = (i, o) :: hset h j q := by simp [hset, e]
attribute [go_sem ↓] lk_hit lk_miss hset_hit hset_miss

section
variable {P : Program} {n0 : Nat} {all : Array Oper} {K : St → Prop}
/-- A row that only reads: a call whose arguments' spare room is forgotten. -/
theorem V_callUE {nx : Nat} {o : Oper} {rest : List Oper} {i i' : Nat} {tm tm' : List AVal} {hp : Heap} {c : Call} {g : FuncId} {args args' : List AVal} {r : AVal} (hg : guardA all tm o = some true) (ho : o.op = .call c) (ht : target tm c = some (g, args))
    (hc : PCall P g args' (· = r)) (hf : FrzL [] [] args args') (htm : putT tm o.dst r = tm') (hn : i + 1 = i') (h : DV P all nx K rest i' tm' hp) : DV P all nx K (o :: rest) i tm hp := fun tc htc =>
  D_callUE hg ho ht hc hf htm hn rfl (h _ (allOld_append htc fun j hj => by cases hj))
end

end Go.AM
