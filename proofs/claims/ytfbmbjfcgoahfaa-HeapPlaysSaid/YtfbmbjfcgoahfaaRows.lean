/-
  No cell of these rows narrows 'for every input' (looked for: loops, veiled, ifaces, maps, wideKeys, modest, calm, conditions, laid).
  DERIVED. THE GIVEN ROWS OF THIS SEAT. 10 by the template 'for every input the law returns true; each argument reads behind the call as it read before'; 0 by the template 'total and deterministic' (their statements: YtfbmbjfcgoahfaaTotals.lean).
  GIVEN WITH THE SEED: the statements are not yours to turn. If you find one false, say at which input.
  Laid BY PROGRAM, IN A SANDBOX (cutbox-rows.mjs): the forced cells as the released guide's own fill.sh prints them over the translation 319a22041ceb88cc… (all of the seat's roots in one cut). By AI agents, Wed Nov 11 2026. No macro, syntax, notation, axiom, sorry.
-/
import Derived.Test.YtfbmbjfcgoahfaaChecked
import GoSem.Claim
import GoSem.ClaimJoined
import GoSem.ClaimMapViews
import Derived.JoinedTies
import Derived.KernelRfl
namespace Go.Proofs.Ytfbmbjfcgoahfaa
/- THE CELL 'sum', in the pinned program and in every row, IS THE sha256 OF THE DUMP (.gsa) THAT YtfbmbjfcgoahfaaProg.lean LOADS. Nothing in Lean hashes anything: it is a label: what it is worth is what the hold of that sum in a sandbox is worth. -/
noncomputable def Try.pinned : Pinned := { name := "ytfbmbjfcgoahfaa", sum := "319a22041ceb88cca93ac2107b1d5b7adb4e8e5a7d830a02c3918c0d8bbe87fc", checked := Try.checked }
namespace Rows
def none {H : Type} : Left H := { results := [], args := [] }

/-- 'usherlaw04.HeapSorts': WHATEVER THE INPUT: true; the input reads as it did. -/
def heapSortsSpec : ChangeSpec := { name := "heapSorts", fn := fun _ => fun
  | [d] => { results := [.lit (.bool true)], args := [d] }
  | _ => none }
def heapSortsRow : OpenClaim := { program := "ytfbmbjfcgoahfaa", sum := "319a22041ceb88cca93ac2107b1d5b7adb4e8e5a7d830a02c3918c0d8bbe87fc", func := "usher/usherlaw04.HeapSorts", spec := "heapSorts", apart := false }
def HeapSortsSaid : Prop := heapSortsRow.holds Try.pinned (OpenSpec.ofChange heapSortsSpec)

/-- ITS FALSE NEIGHBOUR: 'it returns false'. Refute it at one input. -/
def heapSortsWrong : ChangeSpec := { name := "heapSorts", fn := fun _ => fun
  | [d] => { results := [.lit (.bool false)], args := [d] }
  | _ => none }
def HeapSortsWrongFalsely : Prop := heapSortsRow.holds Try.pinned (OpenSpec.ofChange heapSortsWrong)

/-- 'usherlaw04.HeapFull': WHATEVER THE INPUT: true; the input reads as it did. -/
def heapFullSpec : ChangeSpec := { name := "heapFull", fn := fun _ => fun
  | [d1, d2] => { results := [.lit (.bool true)], args := [d1, d2] }
  | _ => none }
def heapFullRow : OpenClaim := { program := "ytfbmbjfcgoahfaa", sum := "319a22041ceb88cca93ac2107b1d5b7adb4e8e5a7d830a02c3918c0d8bbe87fc", func := "usher/usherlaw04.HeapFull", spec := "heapFull", apart := false }
def HeapFullSaid : Prop := heapFullRow.holds Try.pinned (OpenSpec.ofChange heapFullSpec)

/-- ITS FALSE NEIGHBOUR: 'it returns false'. Refute it at one input. -/
def heapFullWrong : ChangeSpec := { name := "heapFull", fn := fun _ => fun
  | [d1, d2] => { results := [.lit (.bool false)], args := [d1, d2] }
  | _ => none }
def HeapFullWrongFalsely : Prop := heapFullRow.holds Try.pinned (OpenSpec.ofChange heapFullWrong)

/-- 'usherlaw05.ClockParts': WHATEVER THE INPUT: true; the input reads as it did. -/
def clockPartsSpec : ChangeSpec := { name := "clockParts", fn := fun _ => fun
  | [d1, d2, d3] => { results := [.lit (.bool true)], args := [d1, d2, d3] }
  | _ => none }
def clockPartsRow : OpenClaim := { program := "ytfbmbjfcgoahfaa", sum := "319a22041ceb88cca93ac2107b1d5b7adb4e8e5a7d830a02c3918c0d8bbe87fc", func := "usher/usherlaw05.ClockParts", spec := "clockParts", apart := false }
def ClockPartsSaid : Prop := clockPartsRow.holds Try.pinned (OpenSpec.ofChange clockPartsSpec)

/-- ITS FALSE NEIGHBOUR: 'it returns false'. Refute it at one input. -/
def clockPartsWrong : ChangeSpec := { name := "clockParts", fn := fun _ => fun
  | [d1, d2, d3] => { results := [.lit (.bool false)], args := [d1, d2, d3] }
  | _ => none }
def ClockPartsWrongFalsely : Prop := clockPartsRow.holds Try.pinned (OpenSpec.ofChange clockPartsWrong)

/-- 'usherlaw05.ClockOrder': WHATEVER THE INPUT: true; the input reads as it did. -/
def clockOrderSpec : ChangeSpec := { name := "clockOrder", fn := fun _ => fun
  | [d1, d2, d3] => { results := [.lit (.bool true)], args := [d1, d2, d3] }
  | _ => none }
def clockOrderRow : OpenClaim := { program := "ytfbmbjfcgoahfaa", sum := "319a22041ceb88cca93ac2107b1d5b7adb4e8e5a7d830a02c3918c0d8bbe87fc", func := "usher/usherlaw05.ClockOrder", spec := "clockOrder", apart := false }
def ClockOrderSaid : Prop := clockOrderRow.holds Try.pinned (OpenSpec.ofChange clockOrderSpec)

/-- ITS FALSE NEIGHBOUR: 'it returns false'. Refute it at one input. -/
def clockOrderWrong : ChangeSpec := { name := "clockOrder", fn := fun _ => fun
  | [d1, d2, d3] => { results := [.lit (.bool false)], args := [d1, d2, d3] }
  | _ => none }
def ClockOrderWrongFalsely : Prop := clockOrderRow.holds Try.pinned (OpenSpec.ofChange clockOrderWrong)

/-- 'usherlaw05.ClockOnce': WHATEVER THE INPUT: true; the input reads as it did. -/
def clockOnceSpec : ChangeSpec := { name := "clockOnce", fn := fun _ => fun
  | [d1, d2, d3] => { results := [.lit (.bool true)], args := [d1, d2, d3] }
  | _ => none }
def clockOnceRow : OpenClaim := { program := "ytfbmbjfcgoahfaa", sum := "319a22041ceb88cca93ac2107b1d5b7adb4e8e5a7d830a02c3918c0d8bbe87fc", func := "usher/usherlaw05.ClockOnce", spec := "clockOnce", apart := false }
def ClockOnceSaid : Prop := clockOnceRow.holds Try.pinned (OpenSpec.ofChange clockOnceSpec)

/-- ITS FALSE NEIGHBOUR: 'it returns false'. Refute it at one input. -/
def clockOnceWrong : ChangeSpec := { name := "clockOnce", fn := fun _ => fun
  | [d1, d2, d3] => { results := [.lit (.bool false)], args := [d1, d2, d3] }
  | _ => none }
def ClockOnceWrongFalsely : Prop := clockOnceRow.holds Try.pinned (OpenSpec.ofChange clockOnceWrong)

/-- 'usherlaw05.ClockPlays': WHATEVER THE INPUT: true; the input reads as it did. -/
def clockPlaysSpec : ChangeSpec := { name := "clockPlays", fn := fun _ => fun
  | [d] => { results := [.lit (.bool true)], args := [d] }
  | _ => none }
def clockPlaysRow : OpenClaim := { program := "ytfbmbjfcgoahfaa", sum := "319a22041ceb88cca93ac2107b1d5b7adb4e8e5a7d830a02c3918c0d8bbe87fc", func := "usher/usherlaw05.ClockPlays", spec := "clockPlays", apart := false }
def ClockPlaysSaid : Prop := clockPlaysRow.holds Try.pinned (OpenSpec.ofChange clockPlaysSpec)

/-- ITS FALSE NEIGHBOUR: 'it returns false'. Refute it at one input. -/
def clockPlaysWrong : ChangeSpec := { name := "clockPlays", fn := fun _ => fun
  | [d] => { results := [.lit (.bool false)], args := [d] }
  | _ => none }
def ClockPlaysWrongFalsely : Prop := clockPlaysRow.holds Try.pinned (OpenSpec.ofChange clockPlaysWrong)

/-- 'usherlaw05.ClockNil': WHATEVER THE INPUT: true; the input reads as it did. -/
def clockNilSpec : ChangeSpec := { name := "clockNil", fn := fun _ => fun
  | [d1, d2] => { results := [.lit (.bool true)], args := [d1, d2] }
  | _ => none }
def clockNilRow : OpenClaim := { program := "ytfbmbjfcgoahfaa", sum := "319a22041ceb88cca93ac2107b1d5b7adb4e8e5a7d830a02c3918c0d8bbe87fc", func := "usher/usherlaw05.ClockNil", spec := "clockNil", apart := false }
def ClockNilSaid : Prop := clockNilRow.holds Try.pinned (OpenSpec.ofChange clockNilSpec)

/-- ITS FALSE NEIGHBOUR: 'it returns false'. Refute it at one input. -/
def clockNilWrong : ChangeSpec := { name := "clockNil", fn := fun _ => fun
  | [d1, d2] => { results := [.lit (.bool false)], args := [d1, d2] }
  | _ => none }
def ClockNilWrongFalsely : Prop := clockNilRow.holds Try.pinned (OpenSpec.ofChange clockNilWrong)

/-- 'usherlaw04.HeapPlays': WHATEVER THE INPUT: true; the input reads as it did. -/
def heapPlaysSpec : ChangeSpec := { name := "heapPlays", fn := fun _ => fun
  | [d] => { results := [.lit (.bool true)], args := [d] }
  | _ => none }
def heapPlaysRow : OpenClaim := { program := "ytfbmbjfcgoahfaa", sum := "319a22041ceb88cca93ac2107b1d5b7adb4e8e5a7d830a02c3918c0d8bbe87fc", func := "usher/usherlaw04.HeapPlays", spec := "heapPlays", unfollowed := true, recurses := true, apart := false }
def HeapPlaysSaid : Prop := heapPlaysRow.holds Try.pinned (OpenSpec.ofChange heapPlaysSpec)

/-- ITS FALSE NEIGHBOUR: 'it returns false'. Refute it at one input. -/
def heapPlaysWrong : ChangeSpec := { name := "heapPlays", fn := fun _ => fun
  | [d] => { results := [.lit (.bool false)], args := [d] }
  | _ => none }
def HeapPlaysWrongFalsely : Prop := heapPlaysRow.holds Try.pinned (OpenSpec.ofChange heapPlaysWrong)

/-- 'usherlaw04.HeapApart': WHATEVER THE INPUT: true; the input reads as it did. -/
def heapApartSpec : ChangeSpec := { name := "heapApart", fn := fun _ => fun
  | [d] => { results := [.lit (.bool true)], args := [d] }
  | _ => none }
def heapApartRow : OpenClaim := { program := "ytfbmbjfcgoahfaa", sum := "319a22041ceb88cca93ac2107b1d5b7adb4e8e5a7d830a02c3918c0d8bbe87fc", func := "usher/usherlaw04.HeapApart", spec := "heapApart", unfollowed := true, recurses := true, apart := false }
def HeapApartSaid : Prop := heapApartRow.holds Try.pinned (OpenSpec.ofChange heapApartSpec)

/-- ITS FALSE NEIGHBOUR: 'it returns false'. Refute it at one input. -/
def heapApartWrong : ChangeSpec := { name := "heapApart", fn := fun _ => fun
  | [d] => { results := [.lit (.bool false)], args := [d] }
  | _ => none }
def HeapApartWrongFalsely : Prop := heapApartRow.holds Try.pinned (OpenSpec.ofChange heapApartWrong)

/-- 'usherlaw04.HeapOrder': WHATEVER THE INPUT: true; the input reads as it did. -/
def heapOrderSpec : ChangeSpec := { name := "heapOrder", fn := fun _ => fun
  | [d1, d2] => { results := [.lit (.bool true)], args := [d1, d2] }
  | _ => none }
def heapOrderRow : OpenClaim := { program := "ytfbmbjfcgoahfaa", sum := "319a22041ceb88cca93ac2107b1d5b7adb4e8e5a7d830a02c3918c0d8bbe87fc", func := "usher/usherlaw04.HeapOrder", spec := "heapOrder", unfollowed := true, recurses := true, apart := false }
def HeapOrderSaid : Prop := heapOrderRow.holds Try.pinned (OpenSpec.ofChange heapOrderSpec)

/-- ITS FALSE NEIGHBOUR: 'it returns false'. Refute it at one input. -/
def heapOrderWrong : ChangeSpec := { name := "heapOrder", fn := fun _ => fun
  | [d1, d2] => { results := [.lit (.bool false)], args := [d1, d2] }
  | _ => none }
def HeapOrderWrongFalsely : Prop := heapOrderRow.holds Try.pinned (OpenSpec.ofChange heapOrderWrong)

/- THE SECOND FORM. 'bulk': how many values and letters a reading holds, each counted each time it is reached (what is shared counts as often as it is met; a slice's spare places count too). A statement '..UptoSaid' is the law's where the arguments, and the package variables that the reading takes, are together of bulk at most 1048576: NARROWER than '..Said'. Prove '..Said' where nothing that the law and all that it calls make is longer than what came in: it says more and counts as full. Else prove '..UptoSaid'. A law counts once. -/
mutual
def uptoBulk {H : Type} : DataW H → Nat
  | .lit (.string bytes) => bytes.length + 1
  | .lit _ => 1
  | .nil => 1
  | .ptr d => uptoBulk d + 1
  | .slice elems spare => uptoBulkAll elems + uptoBulkAll spare + 1
  | .agg parts => uptoBulkAll parts + 1
  | .iface _ d => uptoBulk d + 1
  | .map entries => uptoBulkEntries entries + 1
  | .held _ => 1
def uptoBulkAll {H : Type} : List (DataW H) → Nat
  | [] => 0
  | d :: r => uptoBulk d + uptoBulkAll r
def uptoBulkEntries {H : Type} : List (Lit × DataW H) → Nat
  | [] => 0
  | x :: r => uptoBulkEntry x + uptoBulkEntries r
def uptoBulkEntry {H : Type} : Lit × DataW H → Nat
  | (.string bytes, d) => bytes.length + uptoBulk d + 1
  | (_, d) => uptoBulk d + 1
 end
def uptoSmall : (H : Type) → List (DataW H) → Bool := fun _ ds => decide (uptoBulkAll ds ≤ 1048576)
def OpenSpec.upto (s : _root_.Go.ChangeSpec) : _root_.Go.OpenSpec := { _root_.Go.OpenSpec.ofChange s with cond := some uptoSmall }

/-- 'usherlaw04.HeapSorts', WHERE WHAT IT READS IS OF BULK AT MOST 1048576: true; the input reads as it did. -/
def heapSortsUptoRow : OpenClaim := { program := "ytfbmbjfcgoahfaa", sum := "319a22041ceb88cca93ac2107b1d5b7adb4e8e5a7d830a02c3918c0d8bbe87fc", func := "usher/usherlaw04.HeapSorts", spec := "heapSorts", apart := false, narrowed := true }
def HeapSortsUptoSaid : Prop := heapSortsUptoRow.holds Try.pinned (OpenSpec.upto heapSortsSpec)

/-- 'usherlaw04.HeapFull', WHERE WHAT IT READS IS OF BULK AT MOST 1048576: true; the input reads as it did. -/
def heapFullUptoRow : OpenClaim := { program := "ytfbmbjfcgoahfaa", sum := "319a22041ceb88cca93ac2107b1d5b7adb4e8e5a7d830a02c3918c0d8bbe87fc", func := "usher/usherlaw04.HeapFull", spec := "heapFull", apart := false, narrowed := true }
def HeapFullUptoSaid : Prop := heapFullUptoRow.holds Try.pinned (OpenSpec.upto heapFullSpec)

/-- 'usherlaw05.ClockParts', WHERE WHAT IT READS IS OF BULK AT MOST 1048576: true; the input reads as it did. -/
def clockPartsUptoRow : OpenClaim := { program := "ytfbmbjfcgoahfaa", sum := "319a22041ceb88cca93ac2107b1d5b7adb4e8e5a7d830a02c3918c0d8bbe87fc", func := "usher/usherlaw05.ClockParts", spec := "clockParts", apart := false, narrowed := true }
def ClockPartsUptoSaid : Prop := clockPartsUptoRow.holds Try.pinned (OpenSpec.upto clockPartsSpec)

/-- 'usherlaw05.ClockOrder', WHERE WHAT IT READS IS OF BULK AT MOST 1048576: true; the input reads as it did. -/
def clockOrderUptoRow : OpenClaim := { program := "ytfbmbjfcgoahfaa", sum := "319a22041ceb88cca93ac2107b1d5b7adb4e8e5a7d830a02c3918c0d8bbe87fc", func := "usher/usherlaw05.ClockOrder", spec := "clockOrder", apart := false, narrowed := true }
def ClockOrderUptoSaid : Prop := clockOrderUptoRow.holds Try.pinned (OpenSpec.upto clockOrderSpec)

/-- 'usherlaw05.ClockOnce', WHERE WHAT IT READS IS OF BULK AT MOST 1048576: true; the input reads as it did. -/
def clockOnceUptoRow : OpenClaim := { program := "ytfbmbjfcgoahfaa", sum := "319a22041ceb88cca93ac2107b1d5b7adb4e8e5a7d830a02c3918c0d8bbe87fc", func := "usher/usherlaw05.ClockOnce", spec := "clockOnce", apart := false, narrowed := true }
def ClockOnceUptoSaid : Prop := clockOnceUptoRow.holds Try.pinned (OpenSpec.upto clockOnceSpec)

/-- 'usherlaw05.ClockPlays', WHERE WHAT IT READS IS OF BULK AT MOST 1048576: true; the input reads as it did. -/
def clockPlaysUptoRow : OpenClaim := { program := "ytfbmbjfcgoahfaa", sum := "319a22041ceb88cca93ac2107b1d5b7adb4e8e5a7d830a02c3918c0d8bbe87fc", func := "usher/usherlaw05.ClockPlays", spec := "clockPlays", apart := false, narrowed := true }
def ClockPlaysUptoSaid : Prop := clockPlaysUptoRow.holds Try.pinned (OpenSpec.upto clockPlaysSpec)

/-- 'usherlaw05.ClockNil', WHERE WHAT IT READS IS OF BULK AT MOST 1048576: true; the input reads as it did. -/
def clockNilUptoRow : OpenClaim := { program := "ytfbmbjfcgoahfaa", sum := "319a22041ceb88cca93ac2107b1d5b7adb4e8e5a7d830a02c3918c0d8bbe87fc", func := "usher/usherlaw05.ClockNil", spec := "clockNil", apart := false, narrowed := true }
def ClockNilUptoSaid : Prop := clockNilUptoRow.holds Try.pinned (OpenSpec.upto clockNilSpec)

/-- 'usherlaw04.HeapPlays', WHERE WHAT IT READS IS OF BULK AT MOST 1048576: true; the input reads as it did. -/
def heapPlaysUptoRow : OpenClaim := { program := "ytfbmbjfcgoahfaa", sum := "319a22041ceb88cca93ac2107b1d5b7adb4e8e5a7d830a02c3918c0d8bbe87fc", func := "usher/usherlaw04.HeapPlays", spec := "heapPlays", unfollowed := true, recurses := true, apart := false, narrowed := true }
def HeapPlaysUptoSaid : Prop := heapPlaysUptoRow.holds Try.pinned (OpenSpec.upto heapPlaysSpec)

/-- 'usherlaw04.HeapApart', WHERE WHAT IT READS IS OF BULK AT MOST 1048576: true; the input reads as it did. -/
def heapApartUptoRow : OpenClaim := { program := "ytfbmbjfcgoahfaa", sum := "319a22041ceb88cca93ac2107b1d5b7adb4e8e5a7d830a02c3918c0d8bbe87fc", func := "usher/usherlaw04.HeapApart", spec := "heapApart", unfollowed := true, recurses := true, apart := false, narrowed := true }
def HeapApartUptoSaid : Prop := heapApartUptoRow.holds Try.pinned (OpenSpec.upto heapApartSpec)

/-- 'usherlaw04.HeapOrder', WHERE WHAT IT READS IS OF BULK AT MOST 1048576: true; the input reads as it did. -/
def heapOrderUptoRow : OpenClaim := { program := "ytfbmbjfcgoahfaa", sum := "319a22041ceb88cca93ac2107b1d5b7adb4e8e5a7d830a02c3918c0d8bbe87fc", func := "usher/usherlaw04.HeapOrder", spec := "heapOrder", unfollowed := true, recurses := true, apart := false, narrowed := true }
def HeapOrderUptoSaid : Prop := heapOrderUptoRow.holds Try.pinned (OpenSpec.upto heapOrderSpec)

end Rows
end Go.Proofs.Ytfbmbjfcgoahfaa
