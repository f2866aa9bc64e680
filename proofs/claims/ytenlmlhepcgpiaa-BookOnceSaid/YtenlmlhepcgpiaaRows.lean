/-
  No cell of these rows narrows 'for every input' (looked for: loops, veiled, ifaces, maps, wideKeys, modest, calm, conditions, laid).
  DERIVED. THE GIVEN ROWS OF THIS SEAT. 3 by the template 'for every input the law returns true; each argument reads behind the call as it read before'; 0 by the template 'total and deterministic' (their statements: YtenlmlhepcgpiaaTotals.lean).
  GIVEN WITH THE SEED: the statements are not yours to turn. If you find one false, say at which input.
  Laid BY PROGRAM, IN A SANDBOX (cutbox-rows.mjs): the forced cells as the released guide's own fill.sh prints them over the translation a9c1135bc9965255… (all of the seat's roots in one cut). By AI agents, Wed Nov 11 2026. No macro, syntax, notation, axiom, sorry.
-/
import Derived.Test.YtenlmlhepcgpiaaChecked
import GoSem.Claim
import GoSem.ClaimJoined
import GoSem.ClaimMapViews
import Derived.JoinedTies
import Derived.KernelRfl
namespace Go.Proofs.Ytenlmlhepcgpiaa
/- THE CELL 'sum', in the pinned program and in every row, IS THE sha256 OF THE DUMP (.gsa) THAT YtenlmlhepcgpiaaProg.lean LOADS. Nothing in Lean hashes anything: it is a label: what it is worth is what the hold of that sum in a sandbox is worth. -/
noncomputable def Try.pinned : Pinned := { name := "ytenlmlhepcgpiaa", sum := "a9c1135bc996525543645fd1ee6644e90b53ec65467a4c422e6963a74c505d63", checked := Try.checked }
namespace Rows
def none {H : Type} : Left H := { results := [], args := [] }

/-- 'usherlaw24.BookGoes': WHATEVER THE INPUT: true; the input reads as it did. -/
def bookGoesSpec : ChangeSpec := { name := "bookGoes", fn := fun _ => fun
  | [d1, d2, d3, d4] => { results := [.lit (.bool true)], args := [d1, d2, d3, d4] }
  | _ => none }
def bookGoesRow : OpenClaim := { program := "ytenlmlhepcgpiaa", sum := "a9c1135bc996525543645fd1ee6644e90b53ec65467a4c422e6963a74c505d63", func := "usher/usherlaw24.BookGoes", spec := "bookGoes", unfollowed := true, recurses := true, apart := false }
def BookGoesSaid : Prop := bookGoesRow.holds Try.pinned (OpenSpec.ofChange bookGoesSpec)

/-- ITS FALSE NEIGHBOUR: 'it returns false'. Refute it at one input. -/
def bookGoesWrong : ChangeSpec := { name := "bookGoes", fn := fun _ => fun
  | [d1, d2, d3, d4] => { results := [.lit (.bool false)], args := [d1, d2, d3, d4] }
  | _ => none }
def BookGoesWrongFalsely : Prop := bookGoesRow.holds Try.pinned (OpenSpec.ofChange bookGoesWrong)

/-- 'usherlaw24.BookAll': WHATEVER THE INPUT: true; the input reads as it did. -/
def bookAllSpec : ChangeSpec := { name := "bookAll", fn := fun _ => fun
  | [d1, d2, d3, d4] => { results := [.lit (.bool true)], args := [d1, d2, d3, d4] }
  | _ => none }
def bookAllRow : OpenClaim := { program := "ytenlmlhepcgpiaa", sum := "a9c1135bc996525543645fd1ee6644e90b53ec65467a4c422e6963a74c505d63", func := "usher/usherlaw24.BookAll", spec := "bookAll", unfollowed := true, recurses := true, apart := false }
def BookAllSaid : Prop := bookAllRow.holds Try.pinned (OpenSpec.ofChange bookAllSpec)

/-- ITS FALSE NEIGHBOUR: 'it returns false'. Refute it at one input. -/
def bookAllWrong : ChangeSpec := { name := "bookAll", fn := fun _ => fun
  | [d1, d2, d3, d4] => { results := [.lit (.bool false)], args := [d1, d2, d3, d4] }
  | _ => none }
def BookAllWrongFalsely : Prop := bookAllRow.holds Try.pinned (OpenSpec.ofChange bookAllWrong)

/-- 'usherlaw24.BookOnce': WHATEVER THE INPUT: true; the input reads as it did. -/
def bookOnceSpec : ChangeSpec := { name := "bookOnce", fn := fun _ => fun
  | [d] => { results := [.lit (.bool true)], args := [d] }
  | _ => none }
def bookOnceRow : OpenClaim := { program := "ytenlmlhepcgpiaa", sum := "a9c1135bc996525543645fd1ee6644e90b53ec65467a4c422e6963a74c505d63", func := "usher/usherlaw24.BookOnce", spec := "bookOnce", unfollowed := true, recurses := true, apart := false }
def BookOnceSaid : Prop := bookOnceRow.holds Try.pinned (OpenSpec.ofChange bookOnceSpec)

/-- ITS FALSE NEIGHBOUR: 'it returns false'. Refute it at one input. -/
def bookOnceWrong : ChangeSpec := { name := "bookOnce", fn := fun _ => fun
  | [d] => { results := [.lit (.bool false)], args := [d] }
  | _ => none }
def BookOnceWrongFalsely : Prop := bookOnceRow.holds Try.pinned (OpenSpec.ofChange bookOnceWrong)

/- THE SECOND FORM. 'bulk': how many values and letters a reading holds, each counted each time it is reached (what is shared counts as often as it is met; a slice's spare places count too). A statement '..UptoSaid' is the law's where the arguments, and the package variables that the reading takes, are together of bulk at most 1048576: NARROWER than '..Said'. Prove '..Said' where nothing that the law and all that it calls make is longer than what came in: it says more and counts as full. Else prove '..UptoSaid'. A law counts once. -/
mutual
def uptoBulk {H : Type} : DataW H → Nat
  | .lit (.string bytes) => bytes.length + 1
  | .lit _ => 1
  | .nil => 1
  | .ptr d => uptoBulk d + 1
  | .slice elems spare => uptoBulkAll elems + uptoBulkAll spare + 1
  | .agg parts => uptoBulkAll parts + 1
  | .iface _ d => uptoBulk d + 1
  | .map entries => uptoBulkEntries entries + 1
  | .held _ => 1
def uptoBulkAll {H : Type} : List (DataW H) → Nat
  | [] => 0
  | d :: r => uptoBulk d + uptoBulkAll r
def uptoBulkEntries {H : Type} : List (Lit × DataW H) → Nat
  | [] => 0
  | x :: r => uptoBulkEntry x + uptoBulkEntries r
def uptoBulkEntry {H : Type} : Lit × DataW H → Nat
  | (.string bytes, d) => bytes.length + uptoBulk d + 1
  | (_, d) => uptoBulk d + 1
 end
def uptoSmall : (H : Type) → List (DataW H) → Bool := fun _ ds => decide (uptoBulkAll ds ≤ 1048576)
def OpenSpec.upto (s : _root_.Go.ChangeSpec) : _root_.Go.OpenSpec := { _root_.Go.OpenSpec.ofChange s with cond := some uptoSmall }

/-- 'usherlaw24.BookGoes', WHERE WHAT IT READS IS OF BULK AT MOST 1048576: true; the input reads as it did. -/
def bookGoesUptoRow : OpenClaim := { program := "ytenlmlhepcgpiaa", sum := "a9c1135bc996525543645fd1ee6644e90b53ec65467a4c422e6963a74c505d63", func := "usher/usherlaw24.BookGoes", spec := "bookGoes", unfollowed := true, recurses := true, apart := false, narrowed := true }
def BookGoesUptoSaid : Prop := bookGoesUptoRow.holds Try.pinned (OpenSpec.upto bookGoesSpec)

/-- 'usherlaw24.BookAll', WHERE WHAT IT READS IS OF BULK AT MOST 1048576: true; the input reads as it did. -/
def bookAllUptoRow : OpenClaim := { program := "ytenlmlhepcgpiaa", sum := "a9c1135bc996525543645fd1ee6644e90b53ec65467a4c422e6963a74c505d63", func := "usher/usherlaw24.BookAll", spec := "bookAll", unfollowed := true, recurses := true, apart := false, narrowed := true }
def BookAllUptoSaid : Prop := bookAllUptoRow.holds Try.pinned (OpenSpec.upto bookAllSpec)

/-- 'usherlaw24.BookOnce', WHERE WHAT IT READS IS OF BULK AT MOST 1048576: true; the input reads as it did. -/
def bookOnceUptoRow : OpenClaim := { program := "ytenlmlhepcgpiaa", sum := "a9c1135bc996525543645fd1ee6644e90b53ec65467a4c422e6963a74c505d63", func := "usher/usherlaw24.BookOnce", spec := "bookOnce", unfollowed := true, recurses := true, apart := false, narrowed := true }
def BookOnceUptoSaid : Prop := bookOnceUptoRow.holds Try.pinned (OpenSpec.upto bookOnceSpec)

end Rows
end Go.Proofs.Ytenlmlhepcgpiaa
