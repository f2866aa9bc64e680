/-
  Bounds: plain laws.
-/
import Derived.Test.YteajjckbjgmhaaaM6
namespace Go.Proofs.Yteajjckbjgmhaaa
open Go Go.AM

/-- A level. -/
structure Lv where
  nm : ByteArray
  k : Int
  s : Int
  ln : Int
  bo : Int
  q : Int
  h : Int
  le : Int
  w : Int
  g : Int

def fl (b : Lv) : List AVal := [.str b.nm, .int .i64 b.k, .int .i64 b.s, .int .i64 b.ln, .int .i64 b.bo, .int .i64 b.q, .int .i64 b.h, .int .i64 b.le, .int .i64 b.w, .int .i64 b.g]
theorem fl_fz (b : Lv) (x : AVal) (hx : x ∈ fl b) : Fz x := by
  simp only [fl, List.mem_cons, List.not_mem_nil, or_false] at hx
  rcases hx with rfl | rfl | rfl | rfl | rfl | rfl | rfl | rfl | rfl | rfl <;> first | exact .int _ _ | exact .str _
theorem fl_iff (bs : List Lv) (lim : Option Nat) : Fz (.sl (rf fl bs) lim) ↔ True := ⟨fun _ => trivial, fun _ => rf_fz fl fl_fz bs lim⟩
theorem fl_nm (p : Nat → Prop) (bs : List Lv) (lim : Option Nat) : Nm p (.sl (rf fl bs) lim) ↔ True := ⟨fun _ => trivial, fun _ => Fz.nm (rf_fz fl fl_fz bs lim) p⟩
theorem fl_all (bs : List Lv) : (∀ r, r ∈ rf fl bs → r.length = 10) = True := rf_all fl 10 (fun _ => rfl) bs

def shr (l : List Lv) : List Int := l.map (·.s)
theorem shr_length (l : List Lv) : (shr l).length = l.length := by simp [shr]

/-- What one level has. -/
def bnd (total p : Int) (x : Lv) : Bd := (p, p - p * x.ln / 100, if 0 ≤ x.bo then min total (p + p * x.bo / 100) else total)
def okL (x : Lv) : Bool := decide (0 ≤ x.ln) && decide (x.ln ≤ 100) && decide (-1 ≤ x.bo) && decide (x.bo ≤ 1000)
def bnds (total : Int) (l : List Lv) : List Bd := List.zipWith (bnd total) (parts total (shr l)) l
/-- What Bounds answers. -/
def bou (total : Int) (l : List Lv) : List Bd × Int :=
  if (spl total (shr l)).2 ≠ 0 then ([], (spl total (shr l)).2) else if l.all okL then (bnds total l, 0) else ([], 8)

theorem part_append {xs : List Int} {i : Nat} (h : i < xs.length) : (part xs i).take i ++ [gt xs i] ++ (part xs i).drop (i + 1) = part xs (i + 1) := by
  rw [← part_set h, List.set_eq_take_append_cons_drop, if_pos (by rw [part_length (by omega)]; exact h)]
  simp

/-- So many are there, the others are naught. -/
def partB (xs : List Bd) (i : Nat) : List Bd := xs.take i ++ List.replicate (xs.length - i) (0, 0, 0)
theorem partB_length {xs : List Bd} {i : Nat} (h : i ≤ xs.length) : (partB xs i).length = xs.length := by simp [partB]; omega
theorem partB_zero (xs : List Bd) : partB xs 0 = List.replicate xs.length (0, 0, 0) := by simp [partB]
theorem partB_all (xs : List Bd) : partB xs xs.length = xs := by simp [partB]
theorem partB_append {xs : List Bd} {i : Nat} {b : Bd} (h : xs[i]? = some b) : (partB xs i).take i ++ [b] ++ (partB xs i).drop (i + 1) = partB xs (i + 1) := by
  obtain ⟨hi, he⟩ := List.getElem?_eq_some_iff.1 h
  unfold partB
  rw [List.take_append_of_le_length (by simp; omega), List.take_take, Nat.min_self, List.drop_append, List.drop_eq_nil_of_le (by simp; omega), List.nil_append, List.drop_replicate, List.take_succ_eq_append_getElem hi, he]
  congr 2
  simp
  omega
theorem fb_rep (n : Nat) : List.replicate n [AVal.int .i64 0, AVal.int .i64 0, AVal.int .i64 0] = rf fb (List.replicate n (0, 0, 0)) := by simp [rf, fb]
theorem fb_onm (p : Nat → Prop) (esz : Nat) (xs : List Bd) : (Ob.arr esz (rf fb xs)).nm p ↔ True := ⟨fun _ => trivial, fun _ r hr x hx => by
  simp only [rf, List.mem_map] at hr
  obtain ⟨a, _, rfl⟩ := hr
  exact Fz.nm (fb_fz a x hx) p⟩

theorem bnds_length {total : Int} {l : List Lv} : (bnds total l).length = l.length := by
  simp [bnds, parts_length, shr_length]

theorem bnds_get {total : Int} {l : List Lv} {i : Nat} {x : Lv} (h : l[i]? = some x) : (bnds total l)[i]? = some (bnd total (gt (parts total (shr l)) i) x) := by
  have hi : i < l.length := (List.getElem?_eq_some_iff.1 h).1
  have hp : i < (parts total (shr l)).length := by rw [parts_length, shr_length]; exact hi
  rw [bnds, List.getElem?_zipWith, h, List.getElem?_eq_getElem hp]
  simp [gt, List.getD_eq_getElem?_getD, List.getElem?_eq_getElem hp]

end Go.Proofs.Yteajjckbjgmhaaa
