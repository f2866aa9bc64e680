/-
  No cell of these rows narrows 'for every input' (looked for: loops, veiled, ifaces, maps, wideKeys, modest, calm, conditions, laid).
  DERIVED. THE GIVEN ROWS OF THIS SEAT. 20 by the template 'for every input the law returns true; each argument reads behind the call as it read before'; 0 by the template 'total and deterministic' (their statements: YteajjckbjgmhaaaTotals.lean).
  GIVEN WITH THE SEED: the statements are not yours to turn. If you find one false, say at which input.
  Laid BY PROGRAM, IN A SANDBOX (cutbox-rows.mjs): the forced cells as the released guide's own fill.sh prints them over the translation aa2b9bd7a2805d9e… (all of the seat's roots in one cut). By AI agents, Wed Nov 11 2026. No macro, syntax, notation, axiom, sorry.
-/
import Derived.Test.YteajjckbjgmhaaaChecked
import GoSem.Claim
import GoSem.ClaimJoined
import GoSem.ClaimMapViews
import Derived.JoinedTies
import Derived.KernelRfl
namespace Go.Proofs.Yteajjckbjgmhaaa
/- THE CELL 'sum', in the pinned program and in every row, IS THE sha256 OF THE DUMP (.gsa) THAT YteajjckbjgmhaaaProg.lean LOADS. Nothing in Lean hashes anything: it is a label: what it is worth is what the hold of that sum in a sandbox is worth. -/
noncomputable def Try.pinned : Pinned := { name := "yteajjckbjgmhaaa", sum := "aa2b9bd7a2805d9e95d85df8341b08c8efeea46924bad2607aa1e172738ad8ed", checked := Try.checked }
namespace Rows
def none {H : Type} : Left H := { results := [], args := [] }

/-- 'usherlaw03.SpreadAll': WHATEVER THE INPUT: true; the input reads as it did. -/
def spreadAllSpec : ChangeSpec := { name := "spreadAll", fn := fun _ => fun
  | [d1, d2, d3, d4] => { results := [.lit (.bool true)], args := [d1, d2, d3, d4] }
  | _ => none }
def spreadAllRow : OpenClaim := { program := "yteajjckbjgmhaaa", sum := "aa2b9bd7a2805d9e95d85df8341b08c8efeea46924bad2607aa1e172738ad8ed", func := "usher/usherlaw03.SpreadAll", spec := "spreadAll", apart := false }
def SpreadAllSaid : Prop := spreadAllRow.holds Try.pinned (OpenSpec.ofChange spreadAllSpec)

/-- ITS FALSE NEIGHBOUR: 'it returns false'. Refute it at one input. -/
def spreadAllWrong : ChangeSpec := { name := "spreadAll", fn := fun _ => fun
  | [d1, d2, d3, d4] => { results := [.lit (.bool false)], args := [d1, d2, d3, d4] }
  | _ => none }
def SpreadAllWrongFalsely : Prop := spreadAllRow.holds Try.pinned (OpenSpec.ofChange spreadAllWrong)

/-- 'usherlaw03.SpreadWhole': WHATEVER THE INPUT: true; the input reads as it did. -/
def spreadWholeSpec : ChangeSpec := { name := "spreadWhole", fn := fun _ => fun
  | [d1, d2, d3, d4] => { results := [.lit (.bool true)], args := [d1, d2, d3, d4] }
  | _ => none }
def spreadWholeRow : OpenClaim := { program := "yteajjckbjgmhaaa", sum := "aa2b9bd7a2805d9e95d85df8341b08c8efeea46924bad2607aa1e172738ad8ed", func := "usher/usherlaw03.SpreadWhole", spec := "spreadWhole", apart := false }
def SpreadWholeSaid : Prop := spreadWholeRow.holds Try.pinned (OpenSpec.ofChange spreadWholeSpec)

/-- ITS FALSE NEIGHBOUR: 'it returns false'. Refute it at one input. -/
def spreadWholeWrong : ChangeSpec := { name := "spreadWhole", fn := fun _ => fun
  | [d1, d2, d3, d4] => { results := [.lit (.bool false)], args := [d1, d2, d3, d4] }
  | _ => none }
def SpreadWholeWrongFalsely : Prop := spreadWholeRow.holds Try.pinned (OpenSpec.ofChange spreadWholeWrong)

/-- 'usherlaw03.SpreadFair': WHATEVER THE INPUT: true; the input reads as it did. -/
def spreadFairSpec : ChangeSpec := { name := "spreadFair", fn := fun _ => fun
  | [d1, d2, d3, d4] => { results := [.lit (.bool true)], args := [d1, d2, d3, d4] }
  | _ => none }
def spreadFairRow : OpenClaim := { program := "yteajjckbjgmhaaa", sum := "aa2b9bd7a2805d9e95d85df8341b08c8efeea46924bad2607aa1e172738ad8ed", func := "usher/usherlaw03.SpreadFair", spec := "spreadFair", apart := false }
def SpreadFairSaid : Prop := spreadFairRow.holds Try.pinned (OpenSpec.ofChange spreadFairSpec)

/-- ITS FALSE NEIGHBOUR: 'it returns false'. Refute it at one input. -/
def spreadFairWrong : ChangeSpec := { name := "spreadFair", fn := fun _ => fun
  | [d1, d2, d3, d4] => { results := [.lit (.bool false)], args := [d1, d2, d3, d4] }
  | _ => none }
def SpreadFairWrongFalsely : Prop := spreadFairRow.holds Try.pinned (OpenSpec.ofChange spreadFairWrong)

/-- 'usherlaw03.SpreadMore': WHATEVER THE INPUT: true; the input reads as it did. -/
def spreadMoreSpec : ChangeSpec := { name := "spreadMore", fn := fun _ => fun
  | [d1, d2, d3, d4] => { results := [.lit (.bool true)], args := [d1, d2, d3, d4] }
  | _ => none }
def spreadMoreRow : OpenClaim := { program := "yteajjckbjgmhaaa", sum := "aa2b9bd7a2805d9e95d85df8341b08c8efeea46924bad2607aa1e172738ad8ed", func := "usher/usherlaw03.SpreadMore", spec := "spreadMore", apart := false }
def SpreadMoreSaid : Prop := spreadMoreRow.holds Try.pinned (OpenSpec.ofChange spreadMoreSpec)

/-- ITS FALSE NEIGHBOUR: 'it returns false'. Refute it at one input. -/
def spreadMoreWrong : ChangeSpec := { name := "spreadMore", fn := fun _ => fun
  | [d1, d2, d3, d4] => { results := [.lit (.bool false)], args := [d1, d2, d3, d4] }
  | _ => none }
def SpreadMoreWrongFalsely : Prop := spreadMoreRow.holds Try.pinned (OpenSpec.ofChange spreadMoreWrong)

/-- 'usherlaw03.SpreadEnds': WHATEVER THE INPUT: true; the input reads as it did. -/
def spreadEndsSpec : ChangeSpec := { name := "spreadEnds", fn := fun _ => fun
  | [d1, d2, d3] => { results := [.lit (.bool true)], args := [d1, d2, d3] }
  | _ => none }
def spreadEndsRow : OpenClaim := { program := "yteajjckbjgmhaaa", sum := "aa2b9bd7a2805d9e95d85df8341b08c8efeea46924bad2607aa1e172738ad8ed", func := "usher/usherlaw03.SpreadEnds", spec := "spreadEnds", apart := false }
def SpreadEndsSaid : Prop := spreadEndsRow.holds Try.pinned (OpenSpec.ofChange spreadEndsSpec)

/-- ITS FALSE NEIGHBOUR: 'it returns false'. Refute it at one input. -/
def spreadEndsWrong : ChangeSpec := { name := "spreadEnds", fn := fun _ => fun
  | [d1, d2, d3] => { results := [.lit (.bool false)], args := [d1, d2, d3] }
  | _ => none }
def SpreadEndsWrongFalsely : Prop := spreadEndsRow.holds Try.pinned (OpenSpec.ofChange spreadEndsWrong)

/-- 'usherlaw03.SpreadSame': WHATEVER THE INPUT: true; the input reads as it did. -/
def spreadSameSpec : ChangeSpec := { name := "spreadSame", fn := fun _ => fun
  | [d1, d2, d3, d4] => { results := [.lit (.bool true)], args := [d1, d2, d3, d4] }
  | _ => none }
def spreadSameRow : OpenClaim := { program := "yteajjckbjgmhaaa", sum := "aa2b9bd7a2805d9e95d85df8341b08c8efeea46924bad2607aa1e172738ad8ed", func := "usher/usherlaw03.SpreadSame", spec := "spreadSame", apart := false }
def SpreadSameSaid : Prop := spreadSameRow.holds Try.pinned (OpenSpec.ofChange spreadSameSpec)

/-- ITS FALSE NEIGHBOUR: 'it returns false'. Refute it at one input. -/
def spreadSameWrong : ChangeSpec := { name := "spreadSame", fn := fun _ => fun
  | [d1, d2, d3, d4] => { results := [.lit (.bool false)], args := [d1, d2, d3, d4] }
  | _ => none }
def SpreadSameWrongFalsely : Prop := spreadSameRow.holds Try.pinned (OpenSpec.ofChange spreadSameWrong)

/-- 'usherlaw20.BorrowAll': WHATEVER THE INPUT: true; the input reads as it did. -/
def borrowAllSpec : ChangeSpec := { name := "borrowAll", fn := fun _ => fun
  | [d1, d2, d3] => { results := [.lit (.bool true)], args := [d1, d2, d3] }
  | _ => none }
def borrowAllRow : OpenClaim := { program := "yteajjckbjgmhaaa", sum := "aa2b9bd7a2805d9e95d85df8341b08c8efeea46924bad2607aa1e172738ad8ed", func := "usher/usherlaw20.BorrowAll", spec := "borrowAll", apart := false }
def BorrowAllSaid : Prop := borrowAllRow.holds Try.pinned (OpenSpec.ofChange borrowAllSpec)

/-- ITS FALSE NEIGHBOUR: 'it returns false'. Refute it at one input. -/
def borrowAllWrong : ChangeSpec := { name := "borrowAll", fn := fun _ => fun
  | [d1, d2, d3] => { results := [.lit (.bool false)], args := [d1, d2, d3] }
  | _ => none }
def BorrowAllWrongFalsely : Prop := borrowAllRow.holds Try.pinned (OpenSpec.ofChange borrowAllWrong)

/-- 'usherlaw20.BorrowLent': WHATEVER THE INPUT: true; the input reads as it did. -/
def borrowLentSpec : ChangeSpec := { name := "borrowLent", fn := fun _ => fun
  | [d1, d2] => { results := [.lit (.bool true)], args := [d1, d2] }
  | _ => none }
def borrowLentRow : OpenClaim := { program := "yteajjckbjgmhaaa", sum := "aa2b9bd7a2805d9e95d85df8341b08c8efeea46924bad2607aa1e172738ad8ed", func := "usher/usherlaw20.BorrowLent", spec := "borrowLent", apart := false }
def BorrowLentSaid : Prop := borrowLentRow.holds Try.pinned (OpenSpec.ofChange borrowLentSpec)

/-- ITS FALSE NEIGHBOUR: 'it returns false'. Refute it at one input. -/
def borrowLentWrong : ChangeSpec := { name := "borrowLent", fn := fun _ => fun
  | [d1, d2] => { results := [.lit (.bool false)], args := [d1, d2] }
  | _ => none }
def BorrowLentWrongFalsely : Prop := borrowLentRow.holds Try.pinned (OpenSpec.ofChange borrowLentWrong)

/-- 'usherlaw20.BorrowMore': WHATEVER THE INPUT: true; the input reads as it did. -/
def borrowMoreSpec : ChangeSpec := { name := "borrowMore", fn := fun _ => fun
  | [d1, d2, d3, d4, d5] => { results := [.lit (.bool true)], args := [d1, d2, d3, d4, d5] }
  | _ => none }
def borrowMoreRow : OpenClaim := { program := "yteajjckbjgmhaaa", sum := "aa2b9bd7a2805d9e95d85df8341b08c8efeea46924bad2607aa1e172738ad8ed", func := "usher/usherlaw20.BorrowMore", spec := "borrowMore", apart := false }
def BorrowMoreSaid : Prop := borrowMoreRow.holds Try.pinned (OpenSpec.ofChange borrowMoreSpec)

/-- ITS FALSE NEIGHBOUR: 'it returns false'. Refute it at one input. -/
def borrowMoreWrong : ChangeSpec := { name := "borrowMore", fn := fun _ => fun
  | [d1, d2, d3, d4, d5] => { results := [.lit (.bool false)], args := [d1, d2, d3, d4, d5] }
  | _ => none }
def BorrowMoreWrongFalsely : Prop := borrowMoreRow.holds Try.pinned (OpenSpec.ofChange borrowMoreWrong)

/-- 'usherlaw02.SplitAll': WHATEVER THE INPUT: true; the input reads as it did. -/
def splitAllSpec : ChangeSpec := { name := "splitAll", fn := fun _ => fun
  | [d1, d2] => { results := [.lit (.bool true)], args := [d1, d2] }
  | _ => none }
def splitAllRow : OpenClaim := { program := "yteajjckbjgmhaaa", sum := "aa2b9bd7a2805d9e95d85df8341b08c8efeea46924bad2607aa1e172738ad8ed", func := "usher/usherlaw02.SplitAll", spec := "splitAll", unfollowed := true, recurses := true, apart := false }
def SplitAllSaid : Prop := splitAllRow.holds Try.pinned (OpenSpec.ofChange splitAllSpec)

/-- ITS FALSE NEIGHBOUR: 'it returns false'. Refute it at one input. -/
def splitAllWrong : ChangeSpec := { name := "splitAll", fn := fun _ => fun
  | [d1, d2] => { results := [.lit (.bool false)], args := [d1, d2] }
  | _ => none }
def SplitAllWrongFalsely : Prop := splitAllRow.holds Try.pinned (OpenSpec.ofChange splitAllWrong)

/-- 'usherlaw02.SplitWhole': WHATEVER THE INPUT: true; the input reads as it did. -/
def splitWholeSpec : ChangeSpec := { name := "splitWhole", fn := fun _ => fun
  | [d1, d2] => { results := [.lit (.bool true)], args := [d1, d2] }
  | _ => none }
def splitWholeRow : OpenClaim := { program := "yteajjckbjgmhaaa", sum := "aa2b9bd7a2805d9e95d85df8341b08c8efeea46924bad2607aa1e172738ad8ed", func := "usher/usherlaw02.SplitWhole", spec := "splitWhole", unfollowed := true, recurses := true, apart := false }
def SplitWholeSaid : Prop := splitWholeRow.holds Try.pinned (OpenSpec.ofChange splitWholeSpec)

/-- ITS FALSE NEIGHBOUR: 'it returns false'. Refute it at one input. -/
def splitWholeWrong : ChangeSpec := { name := "splitWhole", fn := fun _ => fun
  | [d1, d2] => { results := [.lit (.bool false)], args := [d1, d2] }
  | _ => none }
def SplitWholeWrongFalsely : Prop := splitWholeRow.holds Try.pinned (OpenSpec.ofChange splitWholeWrong)

/-- 'usherlaw02.SplitOrder': WHATEVER THE INPUT: true; the input reads as it did. -/
def splitOrderSpec : ChangeSpec := { name := "splitOrder", fn := fun _ => fun
  | [d1, d2] => { results := [.lit (.bool true)], args := [d1, d2] }
  | _ => none }
def splitOrderRow : OpenClaim := { program := "yteajjckbjgmhaaa", sum := "aa2b9bd7a2805d9e95d85df8341b08c8efeea46924bad2607aa1e172738ad8ed", func := "usher/usherlaw02.SplitOrder", spec := "splitOrder", unfollowed := true, recurses := true, apart := false }
def SplitOrderSaid : Prop := splitOrderRow.holds Try.pinned (OpenSpec.ofChange splitOrderSpec)

/-- ITS FALSE NEIGHBOUR: 'it returns false'. Refute it at one input. -/
def splitOrderWrong : ChangeSpec := { name := "splitOrder", fn := fun _ => fun
  | [d1, d2] => { results := [.lit (.bool false)], args := [d1, d2] }
  | _ => none }
def SplitOrderWrongFalsely : Prop := splitOrderRow.holds Try.pinned (OpenSpec.ofChange splitOrderWrong)

/-- 'usherlaw02.SplitExact': WHATEVER THE INPUT: true; the input reads as it did. -/
def splitExactSpec : ChangeSpec := { name := "splitExact", fn := fun _ => fun
  | [d1, d2] => { results := [.lit (.bool true)], args := [d1, d2] }
  | _ => none }
def splitExactRow : OpenClaim := { program := "yteajjckbjgmhaaa", sum := "aa2b9bd7a2805d9e95d85df8341b08c8efeea46924bad2607aa1e172738ad8ed", func := "usher/usherlaw02.SplitExact", spec := "splitExact", unfollowed := true, recurses := true, apart := false }
def SplitExactSaid : Prop := splitExactRow.holds Try.pinned (OpenSpec.ofChange splitExactSpec)

/-- ITS FALSE NEIGHBOUR: 'it returns false'. Refute it at one input. -/
def splitExactWrong : ChangeSpec := { name := "splitExact", fn := fun _ => fun
  | [d1, d2] => { results := [.lit (.bool false)], args := [d1, d2] }
  | _ => none }
def SplitExactWrongFalsely : Prop := splitExactRow.holds Try.pinned (OpenSpec.ofChange splitExactWrong)

/-- 'usherlaw02.SplitScale': WHATEVER THE INPUT: true; the input reads as it did. -/
def splitScaleSpec : ChangeSpec := { name := "splitScale", fn := fun _ => fun
  | [d1, d2, d3] => { results := [.lit (.bool true)], args := [d1, d2, d3] }
  | _ => none }
def splitScaleRow : OpenClaim := { program := "yteajjckbjgmhaaa", sum := "aa2b9bd7a2805d9e95d85df8341b08c8efeea46924bad2607aa1e172738ad8ed", func := "usher/usherlaw02.SplitScale", spec := "splitScale", unfollowed := true, recurses := true, apart := false }
def SplitScaleSaid : Prop := splitScaleRow.holds Try.pinned (OpenSpec.ofChange splitScaleSpec)

/-- ITS FALSE NEIGHBOUR: 'it returns false'. Refute it at one input. -/
def splitScaleWrong : ChangeSpec := { name := "splitScale", fn := fun _ => fun
  | [d1, d2, d3] => { results := [.lit (.bool false)], args := [d1, d2, d3] }
  | _ => none }
def SplitScaleWrongFalsely : Prop := splitScaleRow.holds Try.pinned (OpenSpec.ofChange splitScaleWrong)

/-- 'usherlaw02.SplitNothing': WHATEVER THE INPUT: true; the input reads as it did. -/
def splitNothingSpec : ChangeSpec := { name := "splitNothing", fn := fun _ => fun
  | [d1, d2] => { results := [.lit (.bool true)], args := [d1, d2] }
  | _ => none }
def splitNothingRow : OpenClaim := { program := "yteajjckbjgmhaaa", sum := "aa2b9bd7a2805d9e95d85df8341b08c8efeea46924bad2607aa1e172738ad8ed", func := "usher/usherlaw02.SplitNothing", spec := "splitNothing", unfollowed := true, recurses := true, apart := false }
def SplitNothingSaid : Prop := splitNothingRow.holds Try.pinned (OpenSpec.ofChange splitNothingSpec)

/-- ITS FALSE NEIGHBOUR: 'it returns false'. Refute it at one input. -/
def splitNothingWrong : ChangeSpec := { name := "splitNothing", fn := fun _ => fun
  | [d1, d2] => { results := [.lit (.bool false)], args := [d1, d2] }
  | _ => none }
def SplitNothingWrongFalsely : Prop := splitNothingRow.holds Try.pinned (OpenSpec.ofChange splitNothingWrong)

/-- 'usherlaw18.BoundsAll': WHATEVER THE INPUT: true; the input reads as it did. -/
def boundsAllSpec : ChangeSpec := { name := "boundsAll", fn := fun _ => fun
  | [d1, d2] => { results := [.lit (.bool true)], args := [d1, d2] }
  | _ => none }
def boundsAllRow : OpenClaim := { program := "yteajjckbjgmhaaa", sum := "aa2b9bd7a2805d9e95d85df8341b08c8efeea46924bad2607aa1e172738ad8ed", func := "usher/usherlaw18.BoundsAll", spec := "boundsAll", unfollowed := true, recurses := true, apart := false }
def BoundsAllSaid : Prop := boundsAllRow.holds Try.pinned (OpenSpec.ofChange boundsAllSpec)

/-- ITS FALSE NEIGHBOUR: 'it returns false'. Refute it at one input. -/
def boundsAllWrong : ChangeSpec := { name := "boundsAll", fn := fun _ => fun
  | [d1, d2] => { results := [.lit (.bool false)], args := [d1, d2] }
  | _ => none }
def BoundsAllWrongFalsely : Prop := boundsAllRow.holds Try.pinned (OpenSpec.ofChange boundsAllWrong)

/-- 'usherlaw18.BoundsHold': WHATEVER THE INPUT: true; the input reads as it did. -/
def boundsHoldSpec : ChangeSpec := { name := "boundsHold", fn := fun _ => fun
  | [d1, d2] => { results := [.lit (.bool true)], args := [d1, d2] }
  | _ => none }
def boundsHoldRow : OpenClaim := { program := "yteajjckbjgmhaaa", sum := "aa2b9bd7a2805d9e95d85df8341b08c8efeea46924bad2607aa1e172738ad8ed", func := "usher/usherlaw18.BoundsHold", spec := "boundsHold", unfollowed := true, recurses := true, apart := false }
def BoundsHoldSaid : Prop := boundsHoldRow.holds Try.pinned (OpenSpec.ofChange boundsHoldSpec)

/-- ITS FALSE NEIGHBOUR: 'it returns false'. Refute it at one input. -/
def boundsHoldWrong : ChangeSpec := { name := "boundsHold", fn := fun _ => fun
  | [d1, d2] => { results := [.lit (.bool false)], args := [d1, d2] }
  | _ => none }
def BoundsHoldWrongFalsely : Prop := boundsHoldRow.holds Try.pinned (OpenSpec.ofChange boundsHoldWrong)

/-- 'usherlaw18.BoundsShut': WHATEVER THE INPUT: true; the input reads as it did. -/
def boundsShutSpec : ChangeSpec := { name := "boundsShut", fn := fun _ => fun
  | [d1, d2] => { results := [.lit (.bool true)], args := [d1, d2] }
  | _ => none }
def boundsShutRow : OpenClaim := { program := "yteajjckbjgmhaaa", sum := "aa2b9bd7a2805d9e95d85df8341b08c8efeea46924bad2607aa1e172738ad8ed", func := "usher/usherlaw18.BoundsShut", spec := "boundsShut", unfollowed := true, recurses := true, apart := false }
def BoundsShutSaid : Prop := boundsShutRow.holds Try.pinned (OpenSpec.ofChange boundsShutSpec)

/-- ITS FALSE NEIGHBOUR: 'it returns false'. Refute it at one input. -/
def boundsShutWrong : ChangeSpec := { name := "boundsShut", fn := fun _ => fun
  | [d1, d2] => { results := [.lit (.bool false)], args := [d1, d2] }
  | _ => none }
def BoundsShutWrongFalsely : Prop := boundsShutRow.holds Try.pinned (OpenSpec.ofChange boundsShutWrong)

/-- 'usherlaw18.BoundsOrder': WHATEVER THE INPUT: true; the input reads as it did. -/
def boundsOrderSpec : ChangeSpec := { name := "boundsOrder", fn := fun _ => fun
  | [d1, d2] => { results := [.lit (.bool true)], args := [d1, d2] }
  | _ => none }
def boundsOrderRow : OpenClaim := { program := "yteajjckbjgmhaaa", sum := "aa2b9bd7a2805d9e95d85df8341b08c8efeea46924bad2607aa1e172738ad8ed", func := "usher/usherlaw18.BoundsOrder", spec := "boundsOrder", unfollowed := true, recurses := true, apart := false }
def BoundsOrderSaid : Prop := boundsOrderRow.holds Try.pinned (OpenSpec.ofChange boundsOrderSpec)

/-- ITS FALSE NEIGHBOUR: 'it returns false'. Refute it at one input. -/
def boundsOrderWrong : ChangeSpec := { name := "boundsOrder", fn := fun _ => fun
  | [d1, d2] => { results := [.lit (.bool false)], args := [d1, d2] }
  | _ => none }
def BoundsOrderWrongFalsely : Prop := boundsOrderRow.holds Try.pinned (OpenSpec.ofChange boundsOrderWrong)

/-- 'usherlaw20.BorrowSum': WHATEVER THE INPUT: true; the input reads as it did. -/
def borrowSumSpec : ChangeSpec := { name := "borrowSum", fn := fun _ => fun
  | [d1, d2, d3] => { results := [.lit (.bool true)], args := [d1, d2, d3] }
  | _ => none }
def borrowSumRow : OpenClaim := { program := "yteajjckbjgmhaaa", sum := "aa2b9bd7a2805d9e95d85df8341b08c8efeea46924bad2607aa1e172738ad8ed", func := "usher/usherlaw20.BorrowSum", spec := "borrowSum", unfollowed := true, recurses := true, apart := false }
def BorrowSumSaid : Prop := borrowSumRow.holds Try.pinned (OpenSpec.ofChange borrowSumSpec)

/-- ITS FALSE NEIGHBOUR: 'it returns false'. Refute it at one input. -/
def borrowSumWrong : ChangeSpec := { name := "borrowSum", fn := fun _ => fun
  | [d1, d2, d3] => { results := [.lit (.bool false)], args := [d1, d2, d3] }
  | _ => none }
def BorrowSumWrongFalsely : Prop := borrowSumRow.holds Try.pinned (OpenSpec.ofChange borrowSumWrong)

/- THE SECOND FORM. 'bulk': how many values and letters a reading holds, each counted each time it is reached (what is shared counts as often as it is met; a slice's spare places count too). A statement '..UptoSaid' is the law's where the arguments, and the package variables that the reading takes, are together of bulk at most 1048576: NARROWER than '..Said'. Prove '..Said' where nothing that the law and all that it calls make is longer than what came in: it says more and counts as full. Else prove '..UptoSaid'. A law counts once. -/
mutual
def uptoBulk {H : Type} : DataW H → Nat
  | .lit (.string bytes) => bytes.length + 1
  | .lit _ => 1
  | .nil => 1
  | .ptr d => uptoBulk d + 1
  | .slice elems spare => uptoBulkAll elems + uptoBulkAll spare + 1
  | .agg parts => uptoBulkAll parts + 1
  | .iface _ d => uptoBulk d + 1
  | .map entries => uptoBulkEntries entries + 1
  | .held _ => 1
def uptoBulkAll {H : Type} : List (DataW H) → Nat
  | [] => 0
  | d :: r => uptoBulk d + uptoBulkAll r
def uptoBulkEntries {H : Type} : List (Lit × DataW H) → Nat
  | [] => 0
  | x :: r => uptoBulkEntry x + uptoBulkEntries r
def uptoBulkEntry {H : Type} : Lit × DataW H → Nat
  | (.string bytes, d) => bytes.length + uptoBulk d + 1
  | (_, d) => uptoBulk d + 1
 end
def uptoSmall : (H : Type) → List (DataW H) → Bool := fun _ ds => decide (uptoBulkAll ds ≤ 1048576)
def OpenSpec.upto (s : _root_.Go.ChangeSpec) : _root_.Go.OpenSpec := { _root_.Go.OpenSpec.ofChange s with cond := some uptoSmall }

/-- 'usherlaw03.SpreadAll', WHERE WHAT IT READS IS OF BULK AT MOST 1048576: true; the input reads as it did. -/
def spreadAllUptoRow : OpenClaim := { program := "yteajjckbjgmhaaa", sum := "aa2b9bd7a2805d9e95d85df8341b08c8efeea46924bad2607aa1e172738ad8ed", func := "usher/usherlaw03.SpreadAll", spec := "spreadAll", apart := false, narrowed := true }
def SpreadAllUptoSaid : Prop := spreadAllUptoRow.holds Try.pinned (OpenSpec.upto spreadAllSpec)

/-- 'usherlaw03.SpreadWhole', WHERE WHAT IT READS IS OF BULK AT MOST 1048576: true; the input reads as it did. -/
def spreadWholeUptoRow : OpenClaim := { program := "yteajjckbjgmhaaa", sum := "aa2b9bd7a2805d9e95d85df8341b08c8efeea46924bad2607aa1e172738ad8ed", func := "usher/usherlaw03.SpreadWhole", spec := "spreadWhole", apart := false, narrowed := true }
def SpreadWholeUptoSaid : Prop := spreadWholeUptoRow.holds Try.pinned (OpenSpec.upto spreadWholeSpec)

/-- 'usherlaw03.SpreadFair', WHERE WHAT IT READS IS OF BULK AT MOST 1048576: true; the input reads as it did. -/
def spreadFairUptoRow : OpenClaim := { program := "yteajjckbjgmhaaa", sum := "aa2b9bd7a2805d9e95d85df8341b08c8efeea46924bad2607aa1e172738ad8ed", func := "usher/usherlaw03.SpreadFair", spec := "spreadFair", apart := false, narrowed := true }
def SpreadFairUptoSaid : Prop := spreadFairUptoRow.holds Try.pinned (OpenSpec.upto spreadFairSpec)

/-- 'usherlaw03.SpreadMore', WHERE WHAT IT READS IS OF BULK AT MOST 1048576: true; the input reads as it did. -/
def spreadMoreUptoRow : OpenClaim := { program := "yteajjckbjgmhaaa", sum := "aa2b9bd7a2805d9e95d85df8341b08c8efeea46924bad2607aa1e172738ad8ed", func := "usher/usherlaw03.SpreadMore", spec := "spreadMore", apart := false, narrowed := true }
def SpreadMoreUptoSaid : Prop := spreadMoreUptoRow.holds Try.pinned (OpenSpec.upto spreadMoreSpec)

/-- 'usherlaw03.SpreadEnds', WHERE WHAT IT READS IS OF BULK AT MOST 1048576: true; the input reads as it did. -/
def spreadEndsUptoRow : OpenClaim := { program := "yteajjckbjgmhaaa", sum := "aa2b9bd7a2805d9e95d85df8341b08c8efeea46924bad2607aa1e172738ad8ed", func := "usher/usherlaw03.SpreadEnds", spec := "spreadEnds", apart := false, narrowed := true }
def SpreadEndsUptoSaid : Prop := spreadEndsUptoRow.holds Try.pinned (OpenSpec.upto spreadEndsSpec)

/-- 'usherlaw03.SpreadSame', WHERE WHAT IT READS IS OF BULK AT MOST 1048576: true; the input reads as it did. -/
def spreadSameUptoRow : OpenClaim := { program := "yteajjckbjgmhaaa", sum := "aa2b9bd7a2805d9e95d85df8341b08c8efeea46924bad2607aa1e172738ad8ed", func := "usher/usherlaw03.SpreadSame", spec := "spreadSame", apart := false, narrowed := true }
def SpreadSameUptoSaid : Prop := spreadSameUptoRow.holds Try.pinned (OpenSpec.upto spreadSameSpec)

/-- 'usherlaw20.BorrowAll', WHERE WHAT IT READS IS OF BULK AT MOST 1048576: true; the input reads as it did. -/
def borrowAllUptoRow : OpenClaim := { program := "yteajjckbjgmhaaa", sum := "aa2b9bd7a2805d9e95d85df8341b08c8efeea46924bad2607aa1e172738ad8ed", func := "usher/usherlaw20.BorrowAll", spec := "borrowAll", apart := false, narrowed := true }
def BorrowAllUptoSaid : Prop := borrowAllUptoRow.holds Try.pinned (OpenSpec.upto borrowAllSpec)

/-- 'usherlaw20.BorrowLent', WHERE WHAT IT READS IS OF BULK AT MOST 1048576: true; the input reads as it did. -/
def borrowLentUptoRow : OpenClaim := { program := "yteajjckbjgmhaaa", sum := "aa2b9bd7a2805d9e95d85df8341b08c8efeea46924bad2607aa1e172738ad8ed", func := "usher/usherlaw20.BorrowLent", spec := "borrowLent", apart := false, narrowed := true }
def BorrowLentUptoSaid : Prop := borrowLentUptoRow.holds Try.pinned (OpenSpec.upto borrowLentSpec)

/-- 'usherlaw20.BorrowMore', WHERE WHAT IT READS IS OF BULK AT MOST 1048576: true; the input reads as it did. -/
def borrowMoreUptoRow : OpenClaim := { program := "yteajjckbjgmhaaa", sum := "aa2b9bd7a2805d9e95d85df8341b08c8efeea46924bad2607aa1e172738ad8ed", func := "usher/usherlaw20.BorrowMore", spec := "borrowMore", apart := false, narrowed := true }
def BorrowMoreUptoSaid : Prop := borrowMoreUptoRow.holds Try.pinned (OpenSpec.upto borrowMoreSpec)

/-- 'usherlaw02.SplitAll', WHERE WHAT IT READS IS OF BULK AT MOST 1048576: true; the input reads as it did. -/
def splitAllUptoRow : OpenClaim := { program := "yteajjckbjgmhaaa", sum := "aa2b9bd7a2805d9e95d85df8341b08c8efeea46924bad2607aa1e172738ad8ed", func := "usher/usherlaw02.SplitAll", spec := "splitAll", unfollowed := true, recurses := true, apart := false, narrowed := true }
def SplitAllUptoSaid : Prop := splitAllUptoRow.holds Try.pinned (OpenSpec.upto splitAllSpec)

/-- 'usherlaw02.SplitWhole', WHERE WHAT IT READS IS OF BULK AT MOST 1048576: true; the input reads as it did. -/
def splitWholeUptoRow : OpenClaim := { program := "yteajjckbjgmhaaa", sum := "aa2b9bd7a2805d9e95d85df8341b08c8efeea46924bad2607aa1e172738ad8ed", func := "usher/usherlaw02.SplitWhole", spec := "splitWhole", unfollowed := true, recurses := true, apart := false, narrowed := true }
def SplitWholeUptoSaid : Prop := splitWholeUptoRow.holds Try.pinned (OpenSpec.upto splitWholeSpec)

/-- 'usherlaw02.SplitOrder', WHERE WHAT IT READS IS OF BULK AT MOST 1048576: true; the input reads as it did. -/
def splitOrderUptoRow : OpenClaim := { program := "yteajjckbjgmhaaa", sum := "aa2b9bd7a2805d9e95d85df8341b08c8efeea46924bad2607aa1e172738ad8ed", func := "usher/usherlaw02.SplitOrder", spec := "splitOrder", unfollowed := true, recurses := true, apart := false, narrowed := true }
def SplitOrderUptoSaid : Prop := splitOrderUptoRow.holds Try.pinned (OpenSpec.upto splitOrderSpec)

/-- 'usherlaw02.SplitExact', WHERE WHAT IT READS IS OF BULK AT MOST 1048576: true; the input reads as it did. -/
def splitExactUptoRow : OpenClaim := { program := "yteajjckbjgmhaaa", sum := "aa2b9bd7a2805d9e95d85df8341b08c8efeea46924bad2607aa1e172738ad8ed", func := "usher/usherlaw02.SplitExact", spec := "splitExact", unfollowed := true, recurses := true, apart := false, narrowed := true }
def SplitExactUptoSaid : Prop := splitExactUptoRow.holds Try.pinned (OpenSpec.upto splitExactSpec)

/-- 'usherlaw02.SplitScale', WHERE WHAT IT READS IS OF BULK AT MOST 1048576: true; the input reads as it did. -/
def splitScaleUptoRow : OpenClaim := { program := "yteajjckbjgmhaaa", sum := "aa2b9bd7a2805d9e95d85df8341b08c8efeea46924bad2607aa1e172738ad8ed", func := "usher/usherlaw02.SplitScale", spec := "splitScale", unfollowed := true, recurses := true, apart := false, narrowed := true }
def SplitScaleUptoSaid : Prop := splitScaleUptoRow.holds Try.pinned (OpenSpec.upto splitScaleSpec)

/-- 'usherlaw02.SplitNothing', WHERE WHAT IT READS IS OF BULK AT MOST 1048576: true; the input reads as it did. -/
def splitNothingUptoRow : OpenClaim := { program := "yteajjckbjgmhaaa", sum := "aa2b9bd7a2805d9e95d85df8341b08c8efeea46924bad2607aa1e172738ad8ed", func := "usher/usherlaw02.SplitNothing", spec := "splitNothing", unfollowed := true, recurses := true, apart := false, narrowed := true }
def SplitNothingUptoSaid : Prop := splitNothingUptoRow.holds Try.pinned (OpenSpec.upto splitNothingSpec)

/-- 'usherlaw18.BoundsAll', WHERE WHAT IT READS IS OF BULK AT MOST 1048576: true; the input reads as it did. -/
def boundsAllUptoRow : OpenClaim := { program := "yteajjckbjgmhaaa", sum := "aa2b9bd7a2805d9e95d85df8341b08c8efeea46924bad2607aa1e172738ad8ed", func := "usher/usherlaw18.BoundsAll", spec := "boundsAll", unfollowed := true, recurses := true, apart := false, narrowed := true }
def BoundsAllUptoSaid : Prop := boundsAllUptoRow.holds Try.pinned (OpenSpec.upto boundsAllSpec)

/-- 'usherlaw18.BoundsHold', WHERE WHAT IT READS IS OF BULK AT MOST 1048576: true; the input reads as it did. -/
def boundsHoldUptoRow : OpenClaim := { program := "yteajjckbjgmhaaa", sum := "aa2b9bd7a2805d9e95d85df8341b08c8efeea46924bad2607aa1e172738ad8ed", func := "usher/usherlaw18.BoundsHold", spec := "boundsHold", unfollowed := true, recurses := true, apart := false, narrowed := true }
def BoundsHoldUptoSaid : Prop := boundsHoldUptoRow.holds Try.pinned (OpenSpec.upto boundsHoldSpec)

/-- 'usherlaw18.BoundsShut', WHERE WHAT IT READS IS OF BULK AT MOST 1048576: true; the input reads as it did. -/
def boundsShutUptoRow : OpenClaim := { program := "yteajjckbjgmhaaa", sum := "aa2b9bd7a2805d9e95d85df8341b08c8efeea46924bad2607aa1e172738ad8ed", func := "usher/usherlaw18.BoundsShut", spec := "boundsShut", unfollowed := true, recurses := true, apart := false, narrowed := true }
def BoundsShutUptoSaid : Prop := boundsShutUptoRow.holds Try.pinned (OpenSpec.upto boundsShutSpec)

/-- 'usherlaw18.BoundsOrder', WHERE WHAT IT READS IS OF BULK AT MOST 1048576: true; the input reads as it did. -/
def boundsOrderUptoRow : OpenClaim := { program := "yteajjckbjgmhaaa", sum := "aa2b9bd7a2805d9e95d85df8341b08c8efeea46924bad2607aa1e172738ad8ed", func := "usher/usherlaw18.BoundsOrder", spec := "boundsOrder", unfollowed := true, recurses := true, apart := false, narrowed := true }
def BoundsOrderUptoSaid : Prop := boundsOrderUptoRow.holds Try.pinned (OpenSpec.upto boundsOrderSpec)

/-- 'usherlaw20.BorrowSum', WHERE WHAT IT READS IS OF BULK AT MOST 1048576: true; the input reads as it did. -/
def borrowSumUptoRow : OpenClaim := { program := "yteajjckbjgmhaaa", sum := "aa2b9bd7a2805d9e95d85df8341b08c8efeea46924bad2607aa1e172738ad8ed", func := "usher/usherlaw20.BorrowSum", spec := "borrowSum", unfollowed := true, recurses := true, apart := false, narrowed := true }
def BorrowSumUptoSaid : Prop := borrowSumUptoRow.holds Try.pinned (OpenSpec.upto borrowSumSpec)

end Rows
end Go.Proofs.Yteajjckbjgmhaaa
