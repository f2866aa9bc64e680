/-
  AM, part 32: objects that are handed on whole.
-/
import Derived.Test.YteajjckbjgmhaaaAM31
namespace Go.AM
open Go

theorem lk_head (id : Nat) (o : Ob) (h : Heap) : lk ((id, o) :: h) id = some o := by simp [lk]

theorem FrzL.whole {h h2 : Heap} {id n : Nat} {ex : Bool} {c esz : Nat} {rows : List (List AVal)} {xs ys : List AVal} (hl : lk h id = some (.arr esz rows)) (hS : lk h2 id = none) (hn : rows.length = n)
    (f : FrzL h h2 xs ys) : FrzL h h2 (.ref id n 0 n ex c :: xs) (.sl rows none :: ys) := by
  refine FrzL.rows hl hS hn (by omega) ?_ f
  rw [List.drop_zero, List.take_of_length_le (by omega)]

end Go.AM
