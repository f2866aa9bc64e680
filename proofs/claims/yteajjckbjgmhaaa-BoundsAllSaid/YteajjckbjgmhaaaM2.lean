/-
  Rows of structs; lists that are filled one by one: plain laws.
-/
import Derived.Test.YteajjckbjgmhaaaM1
import Derived.Test.YteajjckbjgmhaaaAM37
namespace Go.Proofs.Yteajjckbjgmhaaa
open Go Go.AM

/-- Rows, by a function. -/
def rf {α : Type} (f : α → List AVal) (xs : List α) : List (List AVal) := xs.map f

theorem rf_length {α : Type} (f : α → List AVal) (xs : List α) : (rf f xs).length = xs.length := by simp [rf]
theorem rf_get {α : Type} (f : α → List AVal) {xs : List α} {i : Nat} {a : α} (h : xs[i]? = some a) : (rf f xs)[i]? = some (f a) := by simp [rf, h]
theorem rf_fz {α : Type} (f : α → List AVal) (hf : ∀ a x, x ∈ f a → Fz x) (xs : List α) (lim : Option Nat) : Fz (.sl (rf f xs) lim) := .sl _ _ fun r hr x hx => by
  simp only [rf, List.mem_map] at hr
  obtain ⟨a, _, rfl⟩ := hr
  exact hf a x hx
theorem rf_all {α : Type} (f : α → List AVal) (n : Nat) (hf : ∀ a, (f a).length = n) (xs : List α) : (∀ r, r ∈ rf f xs → r.length = n) = True := by
  simp only [rf, List.mem_map, eq_iff_iff, iff_true]
  rintro r ⟨a, _, rfl⟩
  exact hf a

theorem some_of_lt {α : Type} {xs : List α} {i : Nat} (h : i < xs.length) : ∃ a, xs[i]? = some a := ⟨xs[i], List.getElem?_eq_getElem h⟩

/-- So many are there, the others are 0. -/
def part (xs : List Int) (i : Nat) : List Int := xs.take i ++ List.replicate (xs.length - i) 0

theorem part_length {xs : List Int} {i : Nat} (h : i ≤ xs.length) : (part xs i).length = xs.length := by simp [part]; omega
theorem part_zero (xs : List Int) : part xs 0 = List.replicate xs.length 0 := by simp [part]
theorem part_all (xs : List Int) : part xs xs.length = xs := by simp [part]
theorem part_set {xs : List Int} {i : Nat} (h : i < xs.length) : (part xs i).set i (gt xs i) = part xs (i + 1) := by
  unfold part
  rw [List.set_append_right _ _ (by simp; omega)]
  have e1 : i - (List.take i xs).length = 0 := by simp; omega
  rw [e1]
  obtain ⟨k, hk⟩ : ∃ k, xs.length - i = k + 1 := ⟨xs.length - i - 1, by omega⟩
  rw [hk, List.replicate_succ, List.set_cons_zero, List.take_succ_eq_append_getElem h, List.append_assoc]
  have e2 : xs.length - (i + 1) = k := by omega
  rw [e2]
  simp [gt, List.getD_eq_getElem?_getD, List.getElem?_eq_getElem h]

theorem gt_map {α : Type} (f : α → Int) {xs : List α} {i : Nat} {a : α} (h : xs[i]? = some a) : gt (xs.map f) i = f a := by
  simp [gt, List.getD_eq_getElem?_getD, h]

theorem ri_rep (n : Nat) : List.replicate n [AVal.int .i64 0] = ri (List.replicate n 0) := by simp [ri]

/-- A bound: what a level has, its least, its most. -/
abbrev Bd := Int × Int × Int
def fb (b : Bd) : List AVal := [.int .i64 b.1, .int .i64 b.2.1, .int .i64 b.2.2]
def bnom (bs : List Bd) : List Int := bs.map (·.1)
def bmin (bs : List Bd) : List Int := bs.map (·.2.1)
def bmax (bs : List Bd) : List Int := bs.map (·.2.2)
/-- A demand: the high one, the smooth one. -/
abbrev Dm := Int × Int
def fd (d : Dm) : List AVal := [.int .i64 d.1, .int .i64 d.2]
def smooth (ds : List Dm) : List Int := ds.map (·.2)

theorem bmin_length (bs : List Bd) : (bmin bs).length = bs.length := by simp [bmin]
theorem bmax_length (bs : List Bd) : (bmax bs).length = bs.length := by simp [bmax]
theorem bnom_length (bs : List Bd) : (bnom bs).length = bs.length := by simp [bnom]
theorem smooth_length (ds : List Dm) : (smooth ds).length = ds.length := by simp [smooth]
theorem fb_fz (b : Bd) (x : AVal) (hx : x ∈ fb b) : Fz x := by
  simp [fb] at hx
  rcases hx with rfl | rfl | rfl <;> exact .int _ _
theorem fd_fz (b : Dm) (x : AVal) (hx : x ∈ fd b) : Fz x := by
  simp [fd] at hx
  rcases hx with rfl | rfl <;> exact .int _ _
theorem fb_iff (bs : List Bd) (lim : Option Nat) : Fz (.sl (rf fb bs) lim) ↔ True := ⟨fun _ => trivial, fun _ => rf_fz fb fb_fz bs lim⟩
theorem fd_iff (bs : List Dm) (lim : Option Nat) : Fz (.sl (rf fd bs) lim) ↔ True := ⟨fun _ => trivial, fun _ => rf_fz fd fd_fz bs lim⟩
theorem fb_nm (p : Nat → Prop) (bs : List Bd) (lim : Option Nat) : Nm p (.sl (rf fb bs) lim) ↔ True := ⟨fun _ => trivial, fun _ => Fz.nm (rf_fz fb fb_fz bs lim) p⟩
theorem fd_nm (p : Nat → Prop) (bs : List Dm) (lim : Option Nat) : Nm p (.sl (rf fd bs) lim) ↔ True := ⟨fun _ => trivial, fun _ => Fz.nm (rf_fz fd fd_fz bs lim) p⟩
theorem fb_all (bs : List Bd) : (∀ r, r ∈ rf fb bs → r.length = 3) = True := rf_all fb 3 (fun _ => rfl) bs
theorem fd_all (bs : List Dm) : (∀ r, r ∈ rf fd bs → r.length = 2) = True := rf_all fd 2 (fun _ => rfl) bs

end Go.Proofs.Yteajjckbjgmhaaa
