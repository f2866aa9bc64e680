/-
  No cell of these rows narrows 'for every input' (looked for: loops, veiled, ifaces, maps, wideKeys, modest, calm, conditions, laid).
  DERIVED. THE GIVEN ROWS OF THIS SEAT. 4 by the template 'for every input the law returns true; each argument reads behind the call as it read before'; 0 by the template 'total and deterministic' (their statements: YtccplioiocpkfaaTotals.lean).
  GIVEN WITH THE SEED: the statements are not yours to turn. If you find one false, say at which input.
  Laid BY PROGRAM, IN A SANDBOX (cutbox-rows.mjs): the forced cells as the released guide's own fill.sh prints them over the translation e4d96862c05adf3e… (all of the seat's roots in one cut). By AI agents, Wed Nov 11 2026. No macro, syntax, notation, axiom, sorry.
-/
import Derived.Test.YtccplioiocpkfaaChecked
import GoSem.Claim
import GoSem.ClaimJoined
import GoSem.ClaimMapViews
import Derived.JoinedTies
import Derived.KernelRfl
namespace Go.Proofs.Ytccplioiocpkfaa
/- THE CELL 'sum', in the pinned program and in every row, IS THE sha256 OF THE DUMP (.gsa) THAT YtccplioiocpkfaaProg.lean LOADS. Nothing in Lean hashes anything: it is a label: what it is worth is what the hold of that sum in a sandbox is worth. -/
noncomputable def Try.pinned : Pinned := { name := "ytccplioiocpkfaa", sum := "e4d96862c05adf3e43950c7b68cf1e25858568d9ec81d8c16df56f1eff5c9301", checked := Try.checked }
namespace Rows
def none {H : Type} : Left H := { results := [], args := [] }

/-- 'usherlaw15.MatchWider': WHATEVER THE INPUT: true; the input reads as it did. -/
def matchWiderSpec : ChangeSpec := { name := "matchWider", fn := fun _ => fun
  | [d1, d2, d3] => { results := [.lit (.bool true)], args := [d1, d2, d3] }
  | _ => none }
def matchWiderRow : OpenClaim := { program := "ytccplioiocpkfaa", sum := "e4d96862c05adf3e43950c7b68cf1e25858568d9ec81d8c16df56f1eff5c9301", func := "usher/usherlaw15.MatchWider", spec := "matchWider", unfollowed := true, recurses := true, apart := false }
def MatchWiderSaid : Prop := matchWiderRow.holds Try.pinned (OpenSpec.ofChange matchWiderSpec)

/-- ITS FALSE NEIGHBOUR: 'it returns false'. Refute it at one input. -/
def matchWiderWrong : ChangeSpec := { name := "matchWider", fn := fun _ => fun
  | [d1, d2, d3] => { results := [.lit (.bool false)], args := [d1, d2, d3] }
  | _ => none }
def MatchWiderWrongFalsely : Prop := matchWiderRow.holds Try.pinned (OpenSpec.ofChange matchWiderWrong)

/-- 'usherlaw15.MatchNobody': WHATEVER THE INPUT: true; the input reads as it did. -/
def matchNobodySpec : ChangeSpec := { name := "matchNobody", fn := fun _ => fun
  | [d1, d2] => { results := [.lit (.bool true)], args := [d1, d2] }
  | _ => none }
def matchNobodyRow : OpenClaim := { program := "ytccplioiocpkfaa", sum := "e4d96862c05adf3e43950c7b68cf1e25858568d9ec81d8c16df56f1eff5c9301", func := "usher/usherlaw15.MatchNobody", spec := "matchNobody", unfollowed := true, recurses := true, apart := false }
def MatchNobodySaid : Prop := matchNobodyRow.holds Try.pinned (OpenSpec.ofChange matchNobodySpec)

/-- ITS FALSE NEIGHBOUR: 'it returns false'. Refute it at one input. -/
def matchNobodyWrong : ChangeSpec := { name := "matchNobody", fn := fun _ => fun
  | [d1, d2] => { results := [.lit (.bool false)], args := [d1, d2] }
  | _ => none }
def MatchNobodyWrongFalsely : Prop := matchNobodyRow.holds Try.pinned (OpenSpec.ofChange matchNobodyWrong)

/-- 'usherlaw15.MatchAll': WHATEVER THE INPUT: true; the input reads as it did. -/
def matchAllSpec : ChangeSpec := { name := "matchAll", fn := fun _ => fun
  | [d1, d2] => { results := [.lit (.bool true)], args := [d1, d2] }
  | _ => none }
def matchAllRow : OpenClaim := { program := "ytccplioiocpkfaa", sum := "e4d96862c05adf3e43950c7b68cf1e25858568d9ec81d8c16df56f1eff5c9301", func := "usher/usherlaw15.MatchAll", spec := "matchAll", unfollowed := true, recurses := true, apart := false }
def MatchAllSaid : Prop := matchAllRow.holds Try.pinned (OpenSpec.ofChange matchAllSpec)

/-- ITS FALSE NEIGHBOUR: 'it returns false'. Refute it at one input. -/
def matchAllWrong : ChangeSpec := { name := "matchAll", fn := fun _ => fun
  | [d1, d2] => { results := [.lit (.bool false)], args := [d1, d2] }
  | _ => none }
def MatchAllWrongFalsely : Prop := matchAllRow.holds Try.pinned (OpenSpec.ofChange matchAllWrong)

/-- 'usherlaw15.MatchRules': WHATEVER THE INPUT: true; the input reads as it did. -/
def matchRulesSpec : ChangeSpec := { name := "matchRules", fn := fun _ => fun
  | [d1, d2] => { results := [.lit (.bool true)], args := [d1, d2] }
  | _ => none }
def matchRulesRow : OpenClaim := { program := "ytccplioiocpkfaa", sum := "e4d96862c05adf3e43950c7b68cf1e25858568d9ec81d8c16df56f1eff5c9301", func := "usher/usherlaw15.MatchRules", spec := "matchRules", unfollowed := true, recurses := true, apart := false }
def MatchRulesSaid : Prop := matchRulesRow.holds Try.pinned (OpenSpec.ofChange matchRulesSpec)

/-- ITS FALSE NEIGHBOUR: 'it returns false'. Refute it at one input. -/
def matchRulesWrong : ChangeSpec := { name := "matchRules", fn := fun _ => fun
  | [d1, d2] => { results := [.lit (.bool false)], args := [d1, d2] }
  | _ => none }
def MatchRulesWrongFalsely : Prop := matchRulesRow.holds Try.pinned (OpenSpec.ofChange matchRulesWrong)

/- THE SECOND FORM. 'bulk': how many values and letters a reading holds, each counted each time it is reached (what is shared counts as often as it is met; a slice's spare places count too). A statement '..UptoSaid' is the law's where the arguments, and the package variables that the reading takes, are together of bulk at most 1048576: NARROWER than '..Said'. Prove '..Said' where nothing that the law and all that it calls make is longer than what came in: it says more and counts as full. Else prove '..UptoSaid'. A law counts once. -/
mutual
def uptoBulk {H : Type} : DataW H → Nat
  | .lit (.string bytes) => bytes.length + 1
  | .lit _ => 1
  | .nil => 1
  | .ptr d => uptoBulk d + 1
  | .slice elems spare => uptoBulkAll elems + uptoBulkAll spare + 1
  | .agg parts => uptoBulkAll parts + 1
  | .iface _ d => uptoBulk d + 1
  | .map entries => uptoBulkEntries entries + 1
  | .held _ => 1
def uptoBulkAll {H : Type} : List (DataW H) → Nat
  | [] => 0
  | d :: r => uptoBulk d + uptoBulkAll r
def uptoBulkEntries {H : Type} : List (Lit × DataW H) → Nat
  | [] => 0
  | x :: r => uptoBulkEntry x + uptoBulkEntries r
def uptoBulkEntry {H : Type} : Lit × DataW H → Nat
  | (.string bytes, d) => bytes.length + uptoBulk d + 1
  | (_, d) => uptoBulk d + 1
 end
def uptoSmall : (H : Type) → List (DataW H) → Bool := fun _ ds => decide (uptoBulkAll ds ≤ 1048576)
def OpenSpec.upto (s : _root_.Go.ChangeSpec) : _root_.Go.OpenSpec := { _root_.Go.OpenSpec.ofChange s with cond := some uptoSmall }

/-- 'usherlaw15.MatchWider', WHERE WHAT IT READS IS OF BULK AT MOST 1048576: true; the input reads as it did. -/
def matchWiderUptoRow : OpenClaim := { program := "ytccplioiocpkfaa", sum := "e4d96862c05adf3e43950c7b68cf1e25858568d9ec81d8c16df56f1eff5c9301", func := "usher/usherlaw15.MatchWider", spec := "matchWider", unfollowed := true, recurses := true, apart := false, narrowed := true }
def MatchWiderUptoSaid : Prop := matchWiderUptoRow.holds Try.pinned (OpenSpec.upto matchWiderSpec)

/-- 'usherlaw15.MatchNobody', WHERE WHAT IT READS IS OF BULK AT MOST 1048576: true; the input reads as it did. -/
def matchNobodyUptoRow : OpenClaim := { program := "ytccplioiocpkfaa", sum := "e4d96862c05adf3e43950c7b68cf1e25858568d9ec81d8c16df56f1eff5c9301", func := "usher/usherlaw15.MatchNobody", spec := "matchNobody", unfollowed := true, recurses := true, apart := false, narrowed := true }
def MatchNobodyUptoSaid : Prop := matchNobodyUptoRow.holds Try.pinned (OpenSpec.upto matchNobodySpec)

/-- 'usherlaw15.MatchAll', WHERE WHAT IT READS IS OF BULK AT MOST 1048576: true; the input reads as it did. -/
def matchAllUptoRow : OpenClaim := { program := "ytccplioiocpkfaa", sum := "e4d96862c05adf3e43950c7b68cf1e25858568d9ec81d8c16df56f1eff5c9301", func := "usher/usherlaw15.MatchAll", spec := "matchAll", unfollowed := true, recurses := true, apart := false, narrowed := true }
def MatchAllUptoSaid : Prop := matchAllUptoRow.holds Try.pinned (OpenSpec.upto matchAllSpec)

/-- 'usherlaw15.MatchRules', WHERE WHAT IT READS IS OF BULK AT MOST 1048576: true; the input reads as it did. -/
def matchRulesUptoRow : OpenClaim := { program := "ytccplioiocpkfaa", sum := "e4d96862c05adf3e43950c7b68cf1e25858568d9ec81d8c16df56f1eff5c9301", func := "usher/usherlaw15.MatchRules", spec := "matchRules", unfollowed := true, recurses := true, apart := false, narrowed := true }
def MatchRulesUptoSaid : Prop := matchRulesUptoRow.holds Try.pinned (OpenSpec.upto matchRulesSpec)

end Rows
end Go.Proofs.Ytccplioiocpkfaa
