/-
  AM, part 26: a parameter of a law, as an abstract value.
-/
import Derived.Test.YtfbmbjfcgoahfaaAM25
namespace Go.AM
open Go

variable {P : Program} {w : World} {H : Type} {enc : TypeId × Value → H} {base : Nat} {spare : Nat → Bool} {held : Bool}

/-- A struct or an array. -/
theorem arg_agg (hl : laidOutB P = true) {t : TypeId} {cs : Array Value} {d : DataW H} {ps : List MemPlace} (ht : t < P.types.size) (h : DataW.Trod enc P w base spare held t (.agg cs) d ps) :
    ∃ m xs, VRel (cx (fun _ => False) (fun _ => none) [] w) (.agg xs) (.agg cs) ∧ Fz (.agg xs) ∧ Shp P m t xs := by
  obtain ⟨m, h⟩ := h
  obtain ⟨xs, r⟩ := red_of hl m t _ d ps ht h
  have hl2 := r.len
  simp only [Value.cells, Array.length_toList] at hl2
  refine ⟨m, xs, .agg xs cs hl2.symm (fun i v hv => ?_) (fun i x v hx hv => (r.rel i x v hx (by simpa [Value.cells] using hv)).1), .agg xs r.fz, r.shp⟩
  have hi : i < xs.length := by have := (Array.getElem?_eq_some_iff.1 hv).1; omega
  exact (r.rel i xs[i] v (List.getElem?_eq_getElem hi) (by simpa [Value.cells] using hv)).2

/-- A slice. -/
theorem arg_slice (hl : laidOutB P = true) {t : TypeId} {a : Option Addr} {len cap : Nat} {d : DataW H} {ps : List MemPlace} (ht : t < P.types.size) (h : DataW.Trod enc P w base spare held t (.slice a len cap) d ps) :
    ∃ m x, VRel (cx (fun _ => False) (fun _ => none) [] w) x (.slice a len cap) ∧ Fz x ∧ Shp P m t [x] := by
  obtain ⟨m, h⟩ := h
  obtain ⟨xs, r⟩ := red_of hl m t _ d ps ht h
  have hl2 := r.len
  simp only [Value.cells, List.length_cons, List.length_nil] at hl2
  obtain ⟨x, rfl⟩ : ∃ x, xs = [x] := List.length_eq_one_iff.1 (by simpa using hl2)
  exact ⟨m, x, (r.rel 0 x _ rfl rfl).1, r.fz x (by simp), r.shp⟩

end Go.AM
