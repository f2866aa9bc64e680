/-
  AM, part 24: what is handed in, read by its type: a row of abstract cells, and what it looks like.
-/
import Derived.Test.YtfbmbjfcgoahfaaAM23
import Derived.ChangeBears
import Derived.DataReads
namespace Go.AM
open Go

/-- What a row of abstract cells is, by its type. -/
def Shp (P : Program) : Nat → TypeId → List AVal → Prop
  | 0, _, _ => False
  | m + 1, t, xs =>
    match P.underlying t with
    | some .bool => ∃ b, xs = [.bool b]
    | some (.int k) => ∃ n, xs = [.int k n] ∧ (Lit.int k n).wf = true
    | some .string => ∃ s : ByteArray, xs = [.str s] ∧ s.size ≤ maxLen
    | some (.slice e) => P.cellsOf e = 0 ∨ ∃ rows lim, xs = [.sl rows lim] ∧ rows.length ≤ maxLen ∧ ∀ r, r ∈ rows → Shp P m e r
    | some (.struct fs) => ∃ parts : List (List AVal), xs = parts.flatten ∧ parts.length = fs.toList.length ∧ ∀ (j : Nat) f ys, fs.toList[j]? = some f → parts[j]? = some ys → Shp P m f.type ys
    | some (.array n e) => ∃ parts : List (List AVal), xs = parts.flatten ∧ parts.length = n ∧ ∀ ys, ys ∈ parts → Shp P m e ys
    | _ => True

/-- What is known of the cells. -/
structure Red (P : Program) (w : World) (m : Nat) (t : TypeId) (cs : List Value) (xs : List AVal) : Prop where
  len : xs.length = cs.length
  size : cs.length = P.cellsOf t
  rel : ∀ (i : Nat) x v, xs[i]? = some x → cs[i]? = some v → VRel (cx (fun _ => False) (fun _ => none) [] w) x v ∧ v.oneCell' = true
  fz : ∀ x, x ∈ xs → Fz x
  shp : Shp P m t xs

/-- Rows that lie one behind the other. -/
theorem red_flat {P : Program} {w : World} {m : Nat} : ∀ (ts : List TypeId) (cs : List Value), cs.length = (ts.map P.cellsOf).sum →
    (∀ (j : Nat) t, ts[j]? = some t → ∃ xs, Red P w m t ((cs.drop ((ts.take j).map P.cellsOf).sum).take (P.cellsOf t)) xs) →
    ∃ parts : List (List AVal), parts.length = ts.length ∧ parts.flatten.length = cs.length ∧ (∀ (i : Nat) x v, parts.flatten[i]? = some x → cs[i]? = some v → VRel (cx (fun _ => False) (fun _ => none) [] w) x v ∧ v.oneCell' = true) ∧
      (∀ x, x ∈ parts.flatten → Fz x) ∧ ∀ (j : Nat) t ys, ts[j]? = some t → parts[j]? = some ys → Shp P m t ys
  | [], cs, hl, _ => ⟨[], rfl, by simpa using hl.symm, fun i x v hx => by simp at hx, fun x hx => by simp at hx, fun j t ys ht => by simp at ht⟩
  | t :: ts, cs, hl, h => by
    simp only [List.map_cons, List.sum_cons] at hl
    obtain ⟨xs, r⟩ := h 0 t rfl
    simp only [List.take_zero, List.map_nil, List.sum_nil, List.drop_zero] at r
    have hlen : xs.length = P.cellsOf t := by rw [r.len, r.size]
    obtain ⟨parts, p1, p2, p3, p4, p5⟩ := red_flat (P := P) (w := w) (m := m) ts (cs.drop (P.cellsOf t)) (by rw [List.length_drop]; omega) fun j u hu => by
      have := h (j + 1) u (by simpa using hu)
      simp only [List.take_succ_cons, List.map_cons, List.sum_cons] at this
      rw [List.drop_drop]
      exact this
    refine ⟨xs :: parts, by simp [p1], ?_, fun i x v hx hv => ?_, fun x hx => ?_, fun j u ys hu hy => ?_⟩
    · simp only [List.flatten_cons, List.length_append, p2, List.length_drop, hlen]
      omega
    · rw [List.flatten_cons] at hx
      by_cases hi : i < xs.length
      · rw [List.getElem?_append_left hi] at hx
        refine r.rel i x v hx ?_
        rw [List.getElem?_take_of_lt (by omega)]
        exact hv
      · rw [List.getElem?_append_right (by omega)] at hx
        refine p3 (i - xs.length) x v hx ?_
        rw [List.getElem?_drop, hlen]
        have : P.cellsOf t + (i - P.cellsOf t) = i := by omega
        rw [this]
        exact hv
    · rw [List.flatten_cons, List.mem_append] at hx
      exact hx.elim (r.fz x) (p4 x)
    · cases j with
      | zero =>
        simp at hu hy
        subst hu
        subst hy
        exact r.shp
      | succ j => exact p5 j u ys (by simpa using hu) (by simpa using hy)

end Go.AM
