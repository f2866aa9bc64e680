/-
  No cell of these rows narrows 'for every input' (looked for: loops, veiled, ifaces, maps, wideKeys, modest, calm, conditions, laid).
  DERIVED. THE GIVEN ROWS OF THIS SEAT. 6 by the template 'for every input the law returns true; each argument reads behind the call as it read before'; 0 by the template 'total and deterministic' (their statements: YtjidlifijngcpaaTotals.lean).
  GIVEN WITH THE SEED: the statements are not yours to turn. If you find one false, say at which input.
  Laid BY PROGRAM, IN A SANDBOX (cutbox-rows.mjs): the forced cells as the released guide's own fill.sh prints them over the translation 79de1c195b8d1f55… (all of the seat's roots in one cut). By AI agents, Wed Nov 11 2026. No macro, syntax, notation, axiom, sorry.
-/
import Derived.Test.YtjidlifijngcpaaChecked
import GoSem.Claim
import GoSem.ClaimJoined
import GoSem.ClaimMapViews
import Derived.JoinedTies
import Derived.KernelRfl
namespace Go.Proofs.Ytjidlifijngcpaa
/- THE CELL 'sum', in the pinned program and in every row, IS THE sha256 OF THE DUMP (.gsa) THAT YtjidlifijngcpaaProg.lean LOADS. Nothing in Lean hashes anything: it is a label: what it is worth is what the hold of that sum in a sandbox is worth. -/
noncomputable def Try.pinned : Pinned := { name := "ytjidlifijngcpaa", sum := "79de1c195b8d1f55c27b3953dcefffc869fc43f8df429fed1012012b206aea6b", checked := Try.checked }
namespace Rows
def none {H : Type} : Left H := { results := [], args := [] }

/-- 'usherlaw01.FixSums': WHATEVER THE INPUT: true; the input reads as it did. -/
def fixSumsSpec : ChangeSpec := { name := "fixSums", fn := fun _ => fun
  | [d1, d2] => { results := [.lit (.bool true)], args := [d1, d2] }
  | _ => none }
def fixSumsRow : OpenClaim := { program := "ytjidlifijngcpaa", sum := "79de1c195b8d1f55c27b3953dcefffc869fc43f8df429fed1012012b206aea6b", func := "usher/usherlaw01.FixSums", spec := "fixSums", named := ["math/bits.divideError", "math/bits.overflowError"], apart := false }
def FixSumsSaid : Prop := fixSumsRow.holds Try.pinned (OpenSpec.ofChange fixSumsSpec)

/-- ITS FALSE NEIGHBOUR: 'it returns false'. Refute it at one input. -/
def fixSumsWrong : ChangeSpec := { name := "fixSums", fn := fun _ => fun
  | [d1, d2] => { results := [.lit (.bool false)], args := [d1, d2] }
  | _ => none }
def FixSumsWrongFalsely : Prop := fixSumsRow.holds Try.pinned (OpenSpec.ofChange fixSumsWrong)

/-- 'usherlaw01.FixRatios': WHATEVER THE INPUT: true; the input reads as it did. -/
def fixRatiosSpec : ChangeSpec := { name := "fixRatios", fn := fun _ => fun
  | [d1, d2, d3, d4] => { results := [.lit (.bool true)], args := [d1, d2, d3, d4] }
  | _ => none }
def fixRatiosRow : OpenClaim := { program := "ytjidlifijngcpaa", sum := "79de1c195b8d1f55c27b3953dcefffc869fc43f8df429fed1012012b206aea6b", func := "usher/usherlaw01.FixRatios", spec := "fixRatios", named := ["math/bits.divideError", "math/bits.overflowError"], apart := false }
def FixRatiosSaid : Prop := fixRatiosRow.holds Try.pinned (OpenSpec.ofChange fixRatiosSpec)

/-- ITS FALSE NEIGHBOUR: 'it returns false'. Refute it at one input. -/
def fixRatiosWrong : ChangeSpec := { name := "fixRatios", fn := fun _ => fun
  | [d1, d2, d3, d4] => { results := [.lit (.bool false)], args := [d1, d2, d3, d4] }
  | _ => none }
def FixRatiosWrongFalsely : Prop := fixRatiosRow.holds Try.pinned (OpenSpec.ofChange fixRatiosWrong)

/-- 'usherlaw01.FixChain': WHATEVER THE INPUT: true; the input reads as it did. -/
def fixChainSpec : ChangeSpec := { name := "fixChain", fn := fun _ => fun
  | [d] => { results := [.lit (.bool true)], args := [d] }
  | _ => none }
def fixChainRow : OpenClaim := { program := "ytjidlifijngcpaa", sum := "79de1c195b8d1f55c27b3953dcefffc869fc43f8df429fed1012012b206aea6b", func := "usher/usherlaw01.FixChain", spec := "fixChain", named := ["math/bits.divideError", "math/bits.overflowError"], apart := false }
def FixChainSaid : Prop := fixChainRow.holds Try.pinned (OpenSpec.ofChange fixChainSpec)

/-- ITS FALSE NEIGHBOUR: 'it returns false'. Refute it at one input. -/
def fixChainWrong : ChangeSpec := { name := "fixChain", fn := fun _ => fun
  | [d] => { results := [.lit (.bool false)], args := [d] }
  | _ => none }
def FixChainWrongFalsely : Prop := fixChainRow.holds Try.pinned (OpenSpec.ofChange fixChainWrong)

/-- 'usherlaw01.FixProducts': WHATEVER THE INPUT: true; the input reads as it did. -/
def fixProductsSpec : ChangeSpec := { name := "fixProducts", fn := fun _ => fun
  | [d1, d2, d3] => { results := [.lit (.bool true)], args := [d1, d2, d3] }
  | _ => none }
def fixProductsRow : OpenClaim := { program := "ytjidlifijngcpaa", sum := "79de1c195b8d1f55c27b3953dcefffc869fc43f8df429fed1012012b206aea6b", func := "usher/usherlaw01.FixProducts", spec := "fixProducts", named := ["math/bits.divideError", "math/bits.overflowError"], apart := false }
def FixProductsSaid : Prop := fixProductsRow.holds Try.pinned (OpenSpec.ofChange fixProductsSpec)

/-- ITS FALSE NEIGHBOUR: 'it returns false'. Refute it at one input. -/
def fixProductsWrong : ChangeSpec := { name := "fixProducts", fn := fun _ => fun
  | [d1, d2, d3] => { results := [.lit (.bool false)], args := [d1, d2, d3] }
  | _ => none }
def FixProductsWrongFalsely : Prop := fixProductsRow.holds Try.pinned (OpenSpec.ofChange fixProductsWrong)

/-- 'usherlaw01.FixOrder': WHATEVER THE INPUT: true; the input reads as it did. -/
def fixOrderSpec : ChangeSpec := { name := "fixOrder", fn := fun _ => fun
  | [d1, d2, d3] => { results := [.lit (.bool true)], args := [d1, d2, d3] }
  | _ => none }
def fixOrderRow : OpenClaim := { program := "ytjidlifijngcpaa", sum := "79de1c195b8d1f55c27b3953dcefffc869fc43f8df429fed1012012b206aea6b", func := "usher/usherlaw01.FixOrder", spec := "fixOrder", named := ["math/bits.divideError", "math/bits.overflowError"], apart := false }
def FixOrderSaid : Prop := fixOrderRow.holds Try.pinned (OpenSpec.ofChange fixOrderSpec)

/-- ITS FALSE NEIGHBOUR: 'it returns false'. Refute it at one input. -/
def fixOrderWrong : ChangeSpec := { name := "fixOrder", fn := fun _ => fun
  | [d1, d2, d3] => { results := [.lit (.bool false)], args := [d1, d2, d3] }
  | _ => none }
def FixOrderWrongFalsely : Prop := fixOrderRow.holds Try.pinned (OpenSpec.ofChange fixOrderWrong)

/-- 'usherlaw01.FixBack': WHATEVER THE INPUT: true; the input reads as it did. -/
def fixBackSpec : ChangeSpec := { name := "fixBack", fn := fun _ => fun
  | [d1, d2] => { results := [.lit (.bool true)], args := [d1, d2] }
  | _ => none }
def fixBackRow : OpenClaim := { program := "ytjidlifijngcpaa", sum := "79de1c195b8d1f55c27b3953dcefffc869fc43f8df429fed1012012b206aea6b", func := "usher/usherlaw01.FixBack", spec := "fixBack", named := ["math/bits.divideError", "math/bits.overflowError"], apart := false }
def FixBackSaid : Prop := fixBackRow.holds Try.pinned (OpenSpec.ofChange fixBackSpec)

/-- ITS FALSE NEIGHBOUR: 'it returns false'. Refute it at one input. -/
def fixBackWrong : ChangeSpec := { name := "fixBack", fn := fun _ => fun
  | [d1, d2] => { results := [.lit (.bool false)], args := [d1, d2] }
  | _ => none }
def FixBackWrongFalsely : Prop := fixBackRow.holds Try.pinned (OpenSpec.ofChange fixBackWrong)

/- THE SECOND FORM. 'bulk': how many values and letters a reading holds, each counted each time it is reached (what is shared counts as often as it is met; a slice's spare places count too). A statement '..UptoSaid' is the law's where the arguments, and the package variables that the reading takes, are together of bulk at most 1048576: NARROWER than '..Said'. Prove '..Said' where nothing that the law and all that it calls make is longer than what came in: it says more and counts as full. Else prove '..UptoSaid'. A law counts once. -/
mutual
def uptoBulk {H : Type} : DataW H → Nat
  | .lit (.string bytes) => bytes.length + 1
  | .lit _ => 1
  | .nil => 1
  | .ptr d => uptoBulk d + 1
  | .slice elems spare => uptoBulkAll elems + uptoBulkAll spare + 1
  | .agg parts => uptoBulkAll parts + 1
  | .iface _ d => uptoBulk d + 1
  | .map entries => uptoBulkEntries entries + 1
  | .held _ => 1
def uptoBulkAll {H : Type} : List (DataW H) → Nat
  | [] => 0
  | d :: r => uptoBulk d + uptoBulkAll r
def uptoBulkEntries {H : Type} : List (Lit × DataW H) → Nat
  | [] => 0
  | x :: r => uptoBulkEntry x + uptoBulkEntries r
def uptoBulkEntry {H : Type} : Lit × DataW H → Nat
  | (.string bytes, d) => bytes.length + uptoBulk d + 1
  | (_, d) => uptoBulk d + 1
 end
def uptoSmall : (H : Type) → List (DataW H) → Bool := fun _ ds => decide (uptoBulkAll ds ≤ 1048576)
def OpenSpec.upto (s : _root_.Go.ChangeSpec) : _root_.Go.OpenSpec := { _root_.Go.OpenSpec.ofChange s with cond := some uptoSmall }

/-- 'usherlaw01.FixSums', WHERE WHAT IT READS IS OF BULK AT MOST 1048576: true; the input reads as it did. -/
def fixSumsUptoRow : OpenClaim := { program := "ytjidlifijngcpaa", sum := "79de1c195b8d1f55c27b3953dcefffc869fc43f8df429fed1012012b206aea6b", func := "usher/usherlaw01.FixSums", spec := "fixSums", named := ["math/bits.divideError", "math/bits.overflowError"], apart := false, narrowed := true }
def FixSumsUptoSaid : Prop := fixSumsUptoRow.holds Try.pinned (OpenSpec.upto fixSumsSpec)

/-- 'usherlaw01.FixRatios', WHERE WHAT IT READS IS OF BULK AT MOST 1048576: true; the input reads as it did. -/
def fixRatiosUptoRow : OpenClaim := { program := "ytjidlifijngcpaa", sum := "79de1c195b8d1f55c27b3953dcefffc869fc43f8df429fed1012012b206aea6b", func := "usher/usherlaw01.FixRatios", spec := "fixRatios", named := ["math/bits.divideError", "math/bits.overflowError"], apart := false, narrowed := true }
def FixRatiosUptoSaid : Prop := fixRatiosUptoRow.holds Try.pinned (OpenSpec.upto fixRatiosSpec)

/-- 'usherlaw01.FixChain', WHERE WHAT IT READS IS OF BULK AT MOST 1048576: true; the input reads as it did. -/
def fixChainUptoRow : OpenClaim := { program := "ytjidlifijngcpaa", sum := "79de1c195b8d1f55c27b3953dcefffc869fc43f8df429fed1012012b206aea6b", func := "usher/usherlaw01.FixChain", spec := "fixChain", named := ["math/bits.divideError", "math/bits.overflowError"], apart := false, narrowed := true }
def FixChainUptoSaid : Prop := fixChainUptoRow.holds Try.pinned (OpenSpec.upto fixChainSpec)

/-- 'usherlaw01.FixProducts', WHERE WHAT IT READS IS OF BULK AT MOST 1048576: true; the input reads as it did. -/
def fixProductsUptoRow : OpenClaim := { program := "ytjidlifijngcpaa", sum := "79de1c195b8d1f55c27b3953dcefffc869fc43f8df429fed1012012b206aea6b", func := "usher/usherlaw01.FixProducts", spec := "fixProducts", named := ["math/bits.divideError", "math/bits.overflowError"], apart := false, narrowed := true }
def FixProductsUptoSaid : Prop := fixProductsUptoRow.holds Try.pinned (OpenSpec.upto fixProductsSpec)

/-- 'usherlaw01.FixOrder', WHERE WHAT IT READS IS OF BULK AT MOST 1048576: true; the input reads as it did. -/
def fixOrderUptoRow : OpenClaim := { program := "ytjidlifijngcpaa", sum := "79de1c195b8d1f55c27b3953dcefffc869fc43f8df429fed1012012b206aea6b", func := "usher/usherlaw01.FixOrder", spec := "fixOrder", named := ["math/bits.divideError", "math/bits.overflowError"], apart := false, narrowed := true }
def FixOrderUptoSaid : Prop := fixOrderUptoRow.holds Try.pinned (OpenSpec.upto fixOrderSpec)

/-- 'usherlaw01.FixBack', WHERE WHAT IT READS IS OF BULK AT MOST 1048576: true; the input reads as it did. -/
def fixBackUptoRow : OpenClaim := { program := "ytjidlifijngcpaa", sum := "79de1c195b8d1f55c27b3953dcefffc869fc43f8df429fed1012012b206aea6b", func := "usher/usherlaw01.FixBack", spec := "fixBack", named := ["math/bits.divideError", "math/bits.overflowError"], apart := false, narrowed := true }
def FixBackUptoSaid : Prop := fixBackUptoRow.holds Try.pinned (OpenSpec.upto fixBackSpec)

end Rows
end Go.Proofs.Ytjidlifijngcpaa
