/-
  No cell of these rows narrows 'for every input' (looked for: loops, veiled, ifaces, maps, wideKeys, modest, calm, conditions, laid).
  DERIVED. THE GIVEN ROWS OF THIS SEAT. 16 by the template 'for every input the law returns true; each argument reads behind the call as it read before'; 0 by the template 'total and deterministic' (their statements: YtdgjelfeclgolaaTotals.lean).
  GIVEN WITH THE SEED: the statements are not yours to turn. If you find one false, say at which input.
  Laid BY PROGRAM, IN A SANDBOX (cutbox-rows.mjs): the forced cells as the released guide's own fill.sh prints them over the translation f463910eeeba69dd… (all of the seat's roots in one cut). By AI agents, Wed Nov 11 2026. No macro, syntax, notation, axiom, sorry.
-/
import Derived.Test.YtdgjelfeclgolaaChecked
import GoSem.Claim
import GoSem.ClaimJoined
import GoSem.ClaimMapViews
import Derived.JoinedTies
import Derived.KernelRfl
namespace Go.Proofs.Ytdgjelfeclgolaa
/- THE CELL 'sum', in the pinned program and in every row, IS THE sha256 OF THE DUMP (.gsa) THAT YtdgjelfeclgolaaProg.lean LOADS. Nothing in Lean hashes anything: it is a label: what it is worth is what the hold of that sum in a sandbox is worth. -/
noncomputable def Try.pinned : Pinned := { name := "ytdgjelfeclgolaa", sum := "f463910eeeba69dda29a5242e7f31f9cc43e22ced1539700cb6b71faf40e3258", checked := Try.checked }
namespace Rows
def none {H : Type} : Left H := { results := [], args := [] }

/-- 'usherlaw21.LaneOrder': WHATEVER THE INPUT: true; the input reads as it did. -/
def laneOrderSpec : ChangeSpec := { name := "laneOrder", fn := fun _ => fun
  | [d1, d2, d3] => { results := [.lit (.bool true)], args := [d1, d2, d3] }
  | _ => none }
def laneOrderRow : OpenClaim := { program := "ytdgjelfeclgolaa", sum := "f463910eeeba69dda29a5242e7f31f9cc43e22ced1539700cb6b71faf40e3258", func := "usher/usherlaw21.LaneOrder", spec := "laneOrder", apart := false }
def LaneOrderSaid : Prop := laneOrderRow.holds Try.pinned (OpenSpec.ofChange laneOrderSpec)

/-- ITS FALSE NEIGHBOUR: 'it returns false'. Refute it at one input. -/
def laneOrderWrong : ChangeSpec := { name := "laneOrder", fn := fun _ => fun
  | [d1, d2, d3] => { results := [.lit (.bool false)], args := [d1, d2, d3] }
  | _ => none }
def LaneOrderWrongFalsely : Prop := laneOrderRow.holds Try.pinned (OpenSpec.ofChange laneOrderWrong)

/-- 'usherlaw21.LaneDrop': WHATEVER THE INPUT: true; the input reads as it did. -/
def laneDropSpec : ChangeSpec := { name := "laneDrop", fn := fun _ => fun
  | [d1, d2, d3] => { results := [.lit (.bool true)], args := [d1, d2, d3] }
  | _ => none }
def laneDropRow : OpenClaim := { program := "ytdgjelfeclgolaa", sum := "f463910eeeba69dda29a5242e7f31f9cc43e22ced1539700cb6b71faf40e3258", func := "usher/usherlaw21.LaneDrop", spec := "laneDrop", unfollowed := true, recurses := true, apart := false }
def LaneDropSaid : Prop := laneDropRow.holds Try.pinned (OpenSpec.ofChange laneDropSpec)

/-- ITS FALSE NEIGHBOUR: 'it returns false'. Refute it at one input. -/
def laneDropWrong : ChangeSpec := { name := "laneDrop", fn := fun _ => fun
  | [d1, d2, d3] => { results := [.lit (.bool false)], args := [d1, d2, d3] }
  | _ => none }
def LaneDropWrongFalsely : Prop := laneDropRow.holds Try.pinned (OpenSpec.ofChange laneDropWrong)

/-- 'usherlaw21.LaneTime': WHATEVER THE INPUT: true; the input reads as it did. -/
def laneTimeSpec : ChangeSpec := { name := "laneTime", fn := fun _ => fun
  | [d1, d2, d3, d4] => { results := [.lit (.bool true)], args := [d1, d2, d3, d4] }
  | _ => none }
def laneTimeRow : OpenClaim := { program := "ytdgjelfeclgolaa", sum := "f463910eeeba69dda29a5242e7f31f9cc43e22ced1539700cb6b71faf40e3258", func := "usher/usherlaw21.LaneTime", spec := "laneTime", unfollowed := true, recurses := true, apart := false }
def LaneTimeSaid : Prop := laneTimeRow.holds Try.pinned (OpenSpec.ofChange laneTimeSpec)

/-- ITS FALSE NEIGHBOUR: 'it returns false'. Refute it at one input. -/
def laneTimeWrong : ChangeSpec := { name := "laneTime", fn := fun _ => fun
  | [d1, d2, d3, d4] => { results := [.lit (.bool false)], args := [d1, d2, d3, d4] }
  | _ => none }
def LaneTimeWrongFalsely : Prop := laneTimeRow.holds Try.pinned (OpenSpec.ofChange laneTimeWrong)

/-- 'usherlaw21.LaneAll': WHATEVER THE INPUT: true; the input reads as it did. -/
def laneAllSpec : ChangeSpec := { name := "laneAll", fn := fun _ => fun
  | [d1, d2, d3, d4, d5] => { results := [.lit (.bool true)], args := [d1, d2, d3, d4, d5] }
  | _ => none }
def laneAllRow : OpenClaim := { program := "ytdgjelfeclgolaa", sum := "f463910eeeba69dda29a5242e7f31f9cc43e22ced1539700cb6b71faf40e3258", func := "usher/usherlaw21.LaneAll", spec := "laneAll", unfollowed := true, recurses := true, apart := false }
def LaneAllSaid : Prop := laneAllRow.holds Try.pinned (OpenSpec.ofChange laneAllSpec)

/-- ITS FALSE NEIGHBOUR: 'it returns false'. Refute it at one input. -/
def laneAllWrong : ChangeSpec := { name := "laneAll", fn := fun _ => fun
  | [d1, d2, d3, d4, d5] => { results := [.lit (.bool false)], args := [d1, d2, d3, d4, d5] }
  | _ => none }
def LaneAllWrongFalsely : Prop := laneAllRow.holds Try.pinned (OpenSpec.ofChange laneAllWrong)

/-- 'usherlaw21.LanePlays': WHATEVER THE INPUT: true; the input reads as it did. -/
def lanePlaysSpec : ChangeSpec := { name := "lanePlays", fn := fun _ => fun
  | [d] => { results := [.lit (.bool true)], args := [d] }
  | _ => none }
def lanePlaysRow : OpenClaim := { program := "ytdgjelfeclgolaa", sum := "f463910eeeba69dda29a5242e7f31f9cc43e22ced1539700cb6b71faf40e3258", func := "usher/usherlaw21.LanePlays", spec := "lanePlays", unfollowed := true, recurses := true, apart := false }
def LanePlaysSaid : Prop := lanePlaysRow.holds Try.pinned (OpenSpec.ofChange lanePlaysSpec)

/-- ITS FALSE NEIGHBOUR: 'it returns false'. Refute it at one input. -/
def lanePlaysWrong : ChangeSpec := { name := "lanePlays", fn := fun _ => fun
  | [d] => { results := [.lit (.bool false)], args := [d] }
  | _ => none }
def LanePlaysWrongFalsely : Prop := lanePlaysRow.holds Try.pinned (OpenSpec.ofChange lanePlaysWrong)

/-- 'usherlaw22.FairTime': WHATEVER THE INPUT: true; the input reads as it did. -/
def fairTimeSpec : ChangeSpec := { name := "fairTime", fn := fun _ => fun
  | [d1, d2, d3] => { results := [.lit (.bool true)], args := [d1, d2, d3] }
  | _ => none }
def fairTimeRow : OpenClaim := { program := "ytdgjelfeclgolaa", sum := "f463910eeeba69dda29a5242e7f31f9cc43e22ced1539700cb6b71faf40e3258", func := "usher/usherlaw22.FairTime", spec := "fairTime", apart := false }
def FairTimeSaid : Prop := fairTimeRow.holds Try.pinned (OpenSpec.ofChange fairTimeSpec)

/-- ITS FALSE NEIGHBOUR: 'it returns false'. Refute it at one input. -/
def fairTimeWrong : ChangeSpec := { name := "fairTime", fn := fun _ => fun
  | [d1, d2, d3] => { results := [.lit (.bool false)], args := [d1, d2, d3] }
  | _ => none }
def FairTimeWrongFalsely : Prop := fairTimeRow.holds Try.pinned (OpenSpec.ofChange fairTimeWrong)

/-- 'usherlaw22.FairShares': WHATEVER THE INPUT: true; the input reads as it did. -/
def fairSharesSpec : ChangeSpec := { name := "fairShares", fn := fun _ => fun
  | [d1, d2, d3, d4, d5, d6, d7] => { results := [.lit (.bool true)], args := [d1, d2, d3, d4, d5, d6, d7] }
  | _ => none }
def fairSharesRow : OpenClaim := { program := "ytdgjelfeclgolaa", sum := "f463910eeeba69dda29a5242e7f31f9cc43e22ced1539700cb6b71faf40e3258", func := "usher/usherlaw22.FairShares", spec := "fairShares", apart := false }
def FairSharesSaid : Prop := fairSharesRow.holds Try.pinned (OpenSpec.ofChange fairSharesSpec)

/-- ITS FALSE NEIGHBOUR: 'it returns false'. Refute it at one input. -/
def fairSharesWrong : ChangeSpec := { name := "fairShares", fn := fun _ => fun
  | [d1, d2, d3, d4, d5, d6, d7] => { results := [.lit (.bool false)], args := [d1, d2, d3, d4, d5, d6, d7] }
  | _ => none }
def FairSharesWrongFalsely : Prop := fairSharesRow.holds Try.pinned (OpenSpec.ofChange fairSharesWrong)

/-- 'usherlaw22.FairChooses': WHATEVER THE INPUT: true; the input reads as it did. -/
def fairChoosesSpec : ChangeSpec := { name := "fairChooses", fn := fun _ => fun
  | [d1, d2] => { results := [.lit (.bool true)], args := [d1, d2] }
  | _ => none }
def fairChoosesRow : OpenClaim := { program := "ytdgjelfeclgolaa", sum := "f463910eeeba69dda29a5242e7f31f9cc43e22ced1539700cb6b71faf40e3258", func := "usher/usherlaw22.FairChooses", spec := "fairChooses", apart := false }
def FairChoosesSaid : Prop := fairChoosesRow.holds Try.pinned (OpenSpec.ofChange fairChoosesSpec)

/-- ITS FALSE NEIGHBOUR: 'it returns false'. Refute it at one input. -/
def fairChoosesWrong : ChangeSpec := { name := "fairChooses", fn := fun _ => fun
  | [d1, d2] => { results := [.lit (.bool false)], args := [d1, d2] }
  | _ => none }
def FairChoosesWrongFalsely : Prop := fairChoosesRow.holds Try.pinned (OpenSpec.ofChange fairChoosesWrong)

/-- 'usherlaw22.FairDrains': WHATEVER THE INPUT: true; the input reads as it did. -/
def fairDrainsSpec : ChangeSpec := { name := "fairDrains", fn := fun _ => fun
  | [d1, d2, d3] => { results := [.lit (.bool true)], args := [d1, d2, d3] }
  | _ => none }
def fairDrainsRow : OpenClaim := { program := "ytdgjelfeclgolaa", sum := "f463910eeeba69dda29a5242e7f31f9cc43e22ced1539700cb6b71faf40e3258", func := "usher/usherlaw22.FairDrains", spec := "fairDrains", apart := false }
def FairDrainsSaid : Prop := fairDrainsRow.holds Try.pinned (OpenSpec.ofChange fairDrainsSpec)

/-- ITS FALSE NEIGHBOUR: 'it returns false'. Refute it at one input. -/
def fairDrainsWrong : ChangeSpec := { name := "fairDrains", fn := fun _ => fun
  | [d1, d2, d3] => { results := [.lit (.bool false)], args := [d1, d2, d3] }
  | _ => none }
def FairDrainsWrongFalsely : Prop := fairDrainsRow.holds Try.pinned (OpenSpec.ofChange fairDrainsWrong)

/-- 'usherlaw22.FairPlays': WHATEVER THE INPUT: true; the input reads as it did. -/
def fairPlaysSpec : ChangeSpec := { name := "fairPlays", fn := fun _ => fun
  | [d1, d2, d3, d4] => { results := [.lit (.bool true)], args := [d1, d2, d3, d4] }
  | _ => none }
def fairPlaysRow : OpenClaim := { program := "ytdgjelfeclgolaa", sum := "f463910eeeba69dda29a5242e7f31f9cc43e22ced1539700cb6b71faf40e3258", func := "usher/usherlaw22.FairPlays", spec := "fairPlays", unfollowed := true, recurses := true, apart := false }
def FairPlaysSaid : Prop := fairPlaysRow.holds Try.pinned (OpenSpec.ofChange fairPlaysSpec)

/-- ITS FALSE NEIGHBOUR: 'it returns false'. Refute it at one input. -/
def fairPlaysWrong : ChangeSpec := { name := "fairPlays", fn := fun _ => fun
  | [d1, d2, d3, d4] => { results := [.lit (.bool false)], args := [d1, d2, d3, d4] }
  | _ => none }
def FairPlaysWrongFalsely : Prop := fairPlaysRow.holds Try.pinned (OpenSpec.ofChange fairPlaysWrong)

/-- 'usherlaw22.FairGone': WHATEVER THE INPUT: true; the input reads as it did. -/
def fairGoneSpec : ChangeSpec := { name := "fairGone", fn := fun _ => fun
  | [d1, d2] => { results := [.lit (.bool true)], args := [d1, d2] }
  | _ => none }
def fairGoneRow : OpenClaim := { program := "ytdgjelfeclgolaa", sum := "f463910eeeba69dda29a5242e7f31f9cc43e22ced1539700cb6b71faf40e3258", func := "usher/usherlaw22.FairGone", spec := "fairGone", unfollowed := true, recurses := true, apart := false }
def FairGoneSaid : Prop := fairGoneRow.holds Try.pinned (OpenSpec.ofChange fairGoneSpec)

/-- ITS FALSE NEIGHBOUR: 'it returns false'. Refute it at one input. -/
def fairGoneWrong : ChangeSpec := { name := "fairGone", fn := fun _ => fun
  | [d1, d2] => { results := [.lit (.bool false)], args := [d1, d2] }
  | _ => none }
def FairGoneWrongFalsely : Prop := fairGoneRow.holds Try.pinned (OpenSpec.ofChange fairGoneWrong)

/-- 'usherlaw22.FairAll': WHATEVER THE INPUT: true; the input reads as it did. -/
def fairAllSpec : ChangeSpec := { name := "fairAll", fn := fun _ => fun
  | [d1, d2, d3, d4, d5, d6] => { results := [.lit (.bool true)], args := [d1, d2, d3, d4, d5, d6] }
  | _ => none }
def fairAllRow : OpenClaim := { program := "ytdgjelfeclgolaa", sum := "f463910eeeba69dda29a5242e7f31f9cc43e22ced1539700cb6b71faf40e3258", func := "usher/usherlaw22.FairAll", spec := "fairAll", unfollowed := true, recurses := true, apart := false }
def FairAllSaid : Prop := fairAllRow.holds Try.pinned (OpenSpec.ofChange fairAllSpec)

/-- ITS FALSE NEIGHBOUR: 'it returns false'. Refute it at one input. -/
def fairAllWrong : ChangeSpec := { name := "fairAll", fn := fun _ => fun
  | [d1, d2, d3, d4, d5, d6] => { results := [.lit (.bool false)], args := [d1, d2, d3, d4, d5, d6] }
  | _ => none }
def FairAllWrongFalsely : Prop := fairAllRow.holds Try.pinned (OpenSpec.ofChange fairAllWrong)

/-- 'usherlaw23.LevelPlays': WHATEVER THE INPUT: true; the input reads as it did. -/
def levelPlaysSpec : ChangeSpec := { name := "levelPlays", fn := fun _ => fun
  | [d1, d2] => { results := [.lit (.bool true)], args := [d1, d2] }
  | _ => none }
def levelPlaysRow : OpenClaim := { program := "ytdgjelfeclgolaa", sum := "f463910eeeba69dda29a5242e7f31f9cc43e22ced1539700cb6b71faf40e3258", func := "usher/usherlaw23.LevelPlays", spec := "levelPlays", unfollowed := true, recurses := true, apart := false }
def LevelPlaysSaid : Prop := levelPlaysRow.holds Try.pinned (OpenSpec.ofChange levelPlaysSpec)

/-- ITS FALSE NEIGHBOUR: 'it returns false'. Refute it at one input. -/
def levelPlaysWrong : ChangeSpec := { name := "levelPlays", fn := fun _ => fun
  | [d1, d2] => { results := [.lit (.bool false)], args := [d1, d2] }
  | _ => none }
def LevelPlaysWrongFalsely : Prop := levelPlaysRow.holds Try.pinned (OpenSpec.ofChange levelPlaysWrong)

/-- 'usherlaw23.LevelHolds': WHATEVER THE INPUT: true; the input reads as it did. -/
def levelHoldsSpec : ChangeSpec := { name := "levelHolds", fn := fun _ => fun
  | [d1, d2] => { results := [.lit (.bool true)], args := [d1, d2] }
  | _ => none }
def levelHoldsRow : OpenClaim := { program := "ytdgjelfeclgolaa", sum := "f463910eeeba69dda29a5242e7f31f9cc43e22ced1539700cb6b71faf40e3258", func := "usher/usherlaw23.LevelHolds", spec := "levelHolds", unfollowed := true, recurses := true, apart := false }
def LevelHoldsSaid : Prop := levelHoldsRow.holds Try.pinned (OpenSpec.ofChange levelHoldsSpec)

/-- ITS FALSE NEIGHBOUR: 'it returns false'. Refute it at one input. -/
def levelHoldsWrong : ChangeSpec := { name := "levelHolds", fn := fun _ => fun
  | [d1, d2] => { results := [.lit (.bool false)], args := [d1, d2] }
  | _ => none }
def LevelHoldsWrongFalsely : Prop := levelHoldsRow.holds Try.pinned (OpenSpec.ofChange levelHoldsWrong)

/-- 'usherlaw23.LevelAll': WHATEVER THE INPUT: true; the input reads as it did. -/
def levelAllSpec : ChangeSpec := { name := "levelAll", fn := fun _ => fun
  | [d1, d2, d3, d4, d5] => { results := [.lit (.bool true)], args := [d1, d2, d3, d4, d5] }
  | _ => none }
def levelAllRow : OpenClaim := { program := "ytdgjelfeclgolaa", sum := "f463910eeeba69dda29a5242e7f31f9cc43e22ced1539700cb6b71faf40e3258", func := "usher/usherlaw23.LevelAll", spec := "levelAll", unfollowed := true, recurses := true, apart := false }
def LevelAllSaid : Prop := levelAllRow.holds Try.pinned (OpenSpec.ofChange levelAllSpec)

/-- ITS FALSE NEIGHBOUR: 'it returns false'. Refute it at one input. -/
def levelAllWrong : ChangeSpec := { name := "levelAll", fn := fun _ => fun
  | [d1, d2, d3, d4, d5] => { results := [.lit (.bool false)], args := [d1, d2, d3, d4, d5] }
  | _ => none }
def LevelAllWrongFalsely : Prop := levelAllRow.holds Try.pinned (OpenSpec.ofChange levelAllWrong)

/-- 'usherlaw23.LevelKeeps': WHATEVER THE INPUT: true; the input reads as it did. -/
def levelKeepsSpec : ChangeSpec := { name := "levelKeeps", fn := fun _ => fun
  | [d1, d2] => { results := [.lit (.bool true)], args := [d1, d2] }
  | _ => none }
def levelKeepsRow : OpenClaim := { program := "ytdgjelfeclgolaa", sum := "f463910eeeba69dda29a5242e7f31f9cc43e22ced1539700cb6b71faf40e3258", func := "usher/usherlaw23.LevelKeeps", spec := "levelKeeps", unfollowed := true, recurses := true, apart := false }
def LevelKeepsSaid : Prop := levelKeepsRow.holds Try.pinned (OpenSpec.ofChange levelKeepsSpec)

/-- ITS FALSE NEIGHBOUR: 'it returns false'. Refute it at one input. -/
def levelKeepsWrong : ChangeSpec := { name := "levelKeeps", fn := fun _ => fun
  | [d1, d2] => { results := [.lit (.bool false)], args := [d1, d2] }
  | _ => none }
def LevelKeepsWrongFalsely : Prop := levelKeepsRow.holds Try.pinned (OpenSpec.ofChange levelKeepsWrong)

/- THE SECOND FORM. 'bulk': how many values and letters a reading holds, each counted each time it is reached (what is shared counts as often as it is met; a slice's spare places count too). A statement '..UptoSaid' is the law's where the arguments, and the package variables that the reading takes, are together of bulk at most 1048576: NARROWER than '..Said'. Prove '..Said' where nothing that the law and all that it calls make is longer than what came in: it says more and counts as full. Else prove '..UptoSaid'. A law counts once. -/
mutual
def uptoBulk {H : Type} : DataW H → Nat
  | .lit (.string bytes) => bytes.length + 1
  | .lit _ => 1
  | .nil => 1
  | .ptr d => uptoBulk d + 1
  | .slice elems spare => uptoBulkAll elems + uptoBulkAll spare + 1
  | .agg parts => uptoBulkAll parts + 1
  | .iface _ d => uptoBulk d + 1
  | .map entries => uptoBulkEntries entries + 1
  | .held _ => 1
def uptoBulkAll {H : Type} : List (DataW H) → Nat
  | [] => 0
  | d :: r => uptoBulk d + uptoBulkAll r
def uptoBulkEntries {H : Type} : List (Lit × DataW H) → Nat
  | [] => 0
  | x :: r => uptoBulkEntry x + uptoBulkEntries r
def uptoBulkEntry {H : Type} : Lit × DataW H → Nat
  | (.string bytes, d) => bytes.length + uptoBulk d + 1
  | (_, d) => uptoBulk d + 1
 end
def uptoSmall : (H : Type) → List (DataW H) → Bool := fun _ ds => decide (uptoBulkAll ds ≤ 1048576)
def OpenSpec.upto (s : _root_.Go.ChangeSpec) : _root_.Go.OpenSpec := { _root_.Go.OpenSpec.ofChange s with cond := some uptoSmall }

/-- 'usherlaw21.LaneOrder', WHERE WHAT IT READS IS OF BULK AT MOST 1048576: true; the input reads as it did. -/
def laneOrderUptoRow : OpenClaim := { program := "ytdgjelfeclgolaa", sum := "f463910eeeba69dda29a5242e7f31f9cc43e22ced1539700cb6b71faf40e3258", func := "usher/usherlaw21.LaneOrder", spec := "laneOrder", apart := false, narrowed := true }
def LaneOrderUptoSaid : Prop := laneOrderUptoRow.holds Try.pinned (OpenSpec.upto laneOrderSpec)

/-- 'usherlaw21.LaneDrop', WHERE WHAT IT READS IS OF BULK AT MOST 1048576: true; the input reads as it did. -/
def laneDropUptoRow : OpenClaim := { program := "ytdgjelfeclgolaa", sum := "f463910eeeba69dda29a5242e7f31f9cc43e22ced1539700cb6b71faf40e3258", func := "usher/usherlaw21.LaneDrop", spec := "laneDrop", unfollowed := true, recurses := true, apart := false, narrowed := true }
def LaneDropUptoSaid : Prop := laneDropUptoRow.holds Try.pinned (OpenSpec.upto laneDropSpec)

/-- 'usherlaw21.LaneTime', WHERE WHAT IT READS IS OF BULK AT MOST 1048576: true; the input reads as it did. -/
def laneTimeUptoRow : OpenClaim := { program := "ytdgjelfeclgolaa", sum := "f463910eeeba69dda29a5242e7f31f9cc43e22ced1539700cb6b71faf40e3258", func := "usher/usherlaw21.LaneTime", spec := "laneTime", unfollowed := true, recurses := true, apart := false, narrowed := true }
def LaneTimeUptoSaid : Prop := laneTimeUptoRow.holds Try.pinned (OpenSpec.upto laneTimeSpec)

/-- 'usherlaw21.LaneAll', WHERE WHAT IT READS IS OF BULK AT MOST 1048576: true; the input reads as it did. -/
def laneAllUptoRow : OpenClaim := { program := "ytdgjelfeclgolaa", sum := "f463910eeeba69dda29a5242e7f31f9cc43e22ced1539700cb6b71faf40e3258", func := "usher/usherlaw21.LaneAll", spec := "laneAll", unfollowed := true, recurses := true, apart := false, narrowed := true }
def LaneAllUptoSaid : Prop := laneAllUptoRow.holds Try.pinned (OpenSpec.upto laneAllSpec)

/-- 'usherlaw21.LanePlays', WHERE WHAT IT READS IS OF BULK AT MOST 1048576: true; the input reads as it did. -/
def lanePlaysUptoRow : OpenClaim := { program := "ytdgjelfeclgolaa", sum := "f463910eeeba69dda29a5242e7f31f9cc43e22ced1539700cb6b71faf40e3258", func := "usher/usherlaw21.LanePlays", spec := "lanePlays", unfollowed := true, recurses := true, apart := false, narrowed := true }
def LanePlaysUptoSaid : Prop := lanePlaysUptoRow.holds Try.pinned (OpenSpec.upto lanePlaysSpec)

/-- 'usherlaw22.FairTime', WHERE WHAT IT READS IS OF BULK AT MOST 1048576: true; the input reads as it did. -/
def fairTimeUptoRow : OpenClaim := { program := "ytdgjelfeclgolaa", sum := "f463910eeeba69dda29a5242e7f31f9cc43e22ced1539700cb6b71faf40e3258", func := "usher/usherlaw22.FairTime", spec := "fairTime", apart := false, narrowed := true }
def FairTimeUptoSaid : Prop := fairTimeUptoRow.holds Try.pinned (OpenSpec.upto fairTimeSpec)

/-- 'usherlaw22.FairShares', WHERE WHAT IT READS IS OF BULK AT MOST 1048576: true; the input reads as it did. -/
def fairSharesUptoRow : OpenClaim := { program := "ytdgjelfeclgolaa", sum := "f463910eeeba69dda29a5242e7f31f9cc43e22ced1539700cb6b71faf40e3258", func := "usher/usherlaw22.FairShares", spec := "fairShares", apart := false, narrowed := true }
def FairSharesUptoSaid : Prop := fairSharesUptoRow.holds Try.pinned (OpenSpec.upto fairSharesSpec)

/-- 'usherlaw22.FairChooses', WHERE WHAT IT READS IS OF BULK AT MOST 1048576: true; the input reads as it did. -/
def fairChoosesUptoRow : OpenClaim := { program := "ytdgjelfeclgolaa", sum := "f463910eeeba69dda29a5242e7f31f9cc43e22ced1539700cb6b71faf40e3258", func := "usher/usherlaw22.FairChooses", spec := "fairChooses", apart := false, narrowed := true }
def FairChoosesUptoSaid : Prop := fairChoosesUptoRow.holds Try.pinned (OpenSpec.upto fairChoosesSpec)

/-- 'usherlaw22.FairDrains', WHERE WHAT IT READS IS OF BULK AT MOST 1048576: true; the input reads as it did. -/
def fairDrainsUptoRow : OpenClaim := { program := "ytdgjelfeclgolaa", sum := "f463910eeeba69dda29a5242e7f31f9cc43e22ced1539700cb6b71faf40e3258", func := "usher/usherlaw22.FairDrains", spec := "fairDrains", apart := false, narrowed := true }
def FairDrainsUptoSaid : Prop := fairDrainsUptoRow.holds Try.pinned (OpenSpec.upto fairDrainsSpec)

/-- 'usherlaw22.FairPlays', WHERE WHAT IT READS IS OF BULK AT MOST 1048576: true; the input reads as it did. -/
def fairPlaysUptoRow : OpenClaim := { program := "ytdgjelfeclgolaa", sum := "f463910eeeba69dda29a5242e7f31f9cc43e22ced1539700cb6b71faf40e3258", func := "usher/usherlaw22.FairPlays", spec := "fairPlays", unfollowed := true, recurses := true, apart := false, narrowed := true }
def FairPlaysUptoSaid : Prop := fairPlaysUptoRow.holds Try.pinned (OpenSpec.upto fairPlaysSpec)

/-- 'usherlaw22.FairGone', WHERE WHAT IT READS IS OF BULK AT MOST 1048576: true; the input reads as it did. -/
def fairGoneUptoRow : OpenClaim := { program := "ytdgjelfeclgolaa", sum := "f463910eeeba69dda29a5242e7f31f9cc43e22ced1539700cb6b71faf40e3258", func := "usher/usherlaw22.FairGone", spec := "fairGone", unfollowed := true, recurses := true, apart := false, narrowed := true }
def FairGoneUptoSaid : Prop := fairGoneUptoRow.holds Try.pinned (OpenSpec.upto fairGoneSpec)

/-- 'usherlaw22.FairAll', WHERE WHAT IT READS IS OF BULK AT MOST 1048576: true; the input reads as it did. -/
def fairAllUptoRow : OpenClaim := { program := "ytdgjelfeclgolaa", sum := "f463910eeeba69dda29a5242e7f31f9cc43e22ced1539700cb6b71faf40e3258", func := "usher/usherlaw22.FairAll", spec := "fairAll", unfollowed := true, recurses := true, apart := false, narrowed := true }
def FairAllUptoSaid : Prop := fairAllUptoRow.holds Try.pinned (OpenSpec.upto fairAllSpec)

/-- 'usherlaw23.LevelPlays', WHERE WHAT IT READS IS OF BULK AT MOST 1048576: true; the input reads as it did. -/
def levelPlaysUptoRow : OpenClaim := { program := "ytdgjelfeclgolaa", sum := "f463910eeeba69dda29a5242e7f31f9cc43e22ced1539700cb6b71faf40e3258", func := "usher/usherlaw23.LevelPlays", spec := "levelPlays", unfollowed := true, recurses := true, apart := false, narrowed := true }
def LevelPlaysUptoSaid : Prop := levelPlaysUptoRow.holds Try.pinned (OpenSpec.upto levelPlaysSpec)

/-- 'usherlaw23.LevelHolds', WHERE WHAT IT READS IS OF BULK AT MOST 1048576: true; the input reads as it did. -/
def levelHoldsUptoRow : OpenClaim := { program := "ytdgjelfeclgolaa", sum := "f463910eeeba69dda29a5242e7f31f9cc43e22ced1539700cb6b71faf40e3258", func := "usher/usherlaw23.LevelHolds", spec := "levelHolds", unfollowed := true, recurses := true, apart := false, narrowed := true }
def LevelHoldsUptoSaid : Prop := levelHoldsUptoRow.holds Try.pinned (OpenSpec.upto levelHoldsSpec)

/-- 'usherlaw23.LevelAll', WHERE WHAT IT READS IS OF BULK AT MOST 1048576: true; the input reads as it did. -/
def levelAllUptoRow : OpenClaim := { program := "ytdgjelfeclgolaa", sum := "f463910eeeba69dda29a5242e7f31f9cc43e22ced1539700cb6b71faf40e3258", func := "usher/usherlaw23.LevelAll", spec := "levelAll", unfollowed := true, recurses := true, apart := false, narrowed := true }
def LevelAllUptoSaid : Prop := levelAllUptoRow.holds Try.pinned (OpenSpec.upto levelAllSpec)

/-- 'usherlaw23.LevelKeeps', WHERE WHAT IT READS IS OF BULK AT MOST 1048576: true; the input reads as it did. -/
def levelKeepsUptoRow : OpenClaim := { program := "ytdgjelfeclgolaa", sum := "f463910eeeba69dda29a5242e7f31f9cc43e22ced1539700cb6b71faf40e3258", func := "usher/usherlaw23.LevelKeeps", spec := "levelKeeps", unfollowed := true, recurses := true, apart := false, narrowed := true }
def LevelKeepsUptoSaid : Prop := levelKeepsUptoRow.holds Try.pinned (OpenSpec.upto levelKeepsSpec)

end Rows
end Go.Proofs.Ytdgjelfeclgolaa
