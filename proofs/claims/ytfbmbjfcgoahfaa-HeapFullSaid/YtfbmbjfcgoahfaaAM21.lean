/-
  AM, part 21: from a contract to a law's row.
-/
import Derived.Test.YtfbmbjfcgoahfaaAM20
import Derived.Below
namespace Go.AM
open Go Go.RowKit

theorem law_calls {P : Program} {g : FuncId} {args : List AVal} {vs : Array Value} {w : World} (h : PCall P g args (· = .bool true)) (hlen : vs.size = args.length)
    (hrel : ∀ (k : Nat) x v, args[k]? = some x → vs[k]? = some v → VRel (cx (fun _ => False) (fun _ => none) [] w) x v) : Calls P g vs w fun e w' => e = .returned (.bool true) ∧ Below w.heap.size w w' := by
  refine (h.run (fun _ => False) w vs (fun _ h => h.elim) hlen hrel).mono ?_
  rintro e w' ⟨v, r, rfl, rfl, _, hv, hev⟩
  cases hv
  exact ⟨rfl, hev.rest.1, hev.rest.2.1, hev.rest.2.2, hev.size, fun k hk => hev.keep k hk fun h => h⟩

theorem rel_nil {c : Cx} (k : Nat) (x : AVal) (v : Value) (hx : ([] : List AVal)[k]? = some x) (_ : (#[] : Array Value)[k]? = some v) : VRel c x v := by simp at hx

theorem rel_cons {c : Cx} {x0 : AVal} {v0 : Value} {xs : List AVal} {vs : List Value} (h0 : VRel c x0 v0) (h : ∀ (k : Nat) x v, xs[k]? = some x → vs.toArray[k]? = some v → VRel c x v) (k : Nat) (x : AVal) (v : Value)
    (hx : (x0 :: xs)[k]? = some x) (hv : (v0 :: vs).toArray[k]? = some v) : VRel c x v := by
  cases k with
  | zero => simp at hx hv; subst hx; subst hv; exact h0
  | succ k => exact h k x v (by simpa using hx) (by simpa using hv)

theorem wf_u64 {n : Int} (h : (Lit.int .u64 n).wf = true) : 0 ≤ n ∧ n < 18446744073709551616 := by
  simp [Lit.wf, IntKind.min, IntKind.max, IntKind.signed, IntKind.bits] at h
  omega

theorem wf_i64 {n : Int} (h : (Lit.int .i64 n).wf = true) : -9223372036854775808 ≤ n ∧ n < 9223372036854775808 := by
  simp [Lit.wf, IntKind.min, IntKind.max, IntKind.signed, IntKind.bits] at h
  omega

end Go.AM
