/-
  What Split answers, by its two cases.
-/
import Derived.Test.YteajjckbjgmhaaaF15
import Derived.Test.YteajjckbjgmhaaaMM
namespace Go.Proofs.Yteajjckbjgmhaaa
open Go Go.AM

theorem split_bad {total e : Int} {sh : List Int} {l1 : Option Nat} (hl1 : sh.length ≤ maxLen) (he : e ≠ 0) (hs : spl total sh = ([], e)) :
    PCall Try.prog 34 [.int .i64 total, .sl (ri sh) l1] (· = .tuple [.sl [] (some 0), .int .i64 e]) := by
  have := split_ok total sh l1 hl1
  rw [← sprV_bad he hs] at this
  exact this

theorem split_good {total : Int} {xs sh : List Int} {l1 : Option Nat} (hl1 : sh.length ≤ maxLen) (hs : spl total sh = (xs, 0)) :
    PCall Try.prog 34 [.int .i64 total, .sl (ri sh) l1] (· = .tuple [.sl (ri xs) none, .int .i64 0]) := by
  have := split_ok total sh l1 hl1
  rw [← sprV_good hs] at this
  exact this

end Go.Proofs.Yteajjckbjgmhaaa
