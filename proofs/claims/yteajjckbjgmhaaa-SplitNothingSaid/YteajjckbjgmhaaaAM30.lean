/-
  AM, part 30: slices of whole numbers; calls that are handed objects.
-/
import Derived.Test.YteajjckbjgmhaaaAM29
namespace Go.AM
open Go

/-- The rows of whole numbers. -/
def ri (xs : List Int) : List (List AVal) := xs.map fun x => [.int .i64 x]

theorem ri_length (xs : List Int) : (ri xs).length = xs.length := by simp [ri]
theorem ri_get {xs : List Int} {i : Nat} (h : i < xs.length) : (ri xs)[i]? = some [.int .i64 (xs.getD i 0)] := by
  simp [ri, List.getElem?_eq_getElem h, List.getD_eq_getElem?_getD]
theorem ri_all (xs : List Int) : (∀ r, r ∈ ri xs → r.length = 1) = True := by simp [ri]
theorem ri_set (xs : List Int) (i : Nat) (v : Int) : (ri xs).set i [.int .i64 v] = ri (xs.set i v) := by simp [ri, List.map_set]
theorem ri_append (xs ys : List Int) : ri xs ++ ri ys = ri (xs ++ ys) := by simp [ri]
theorem ri_snoc (xs : List Int) (v : Int) : ri xs ++ [[.int .i64 v]] = ri (xs ++ [v]) := by simp [ri]
theorem ri_drop (xs : List Int) (n : Nat) : (ri xs).drop n = ri (xs.drop n) := by simp [ri]
theorem ri_take (xs : List Int) (n : Nat) : (ri xs).take n = ri (xs.take n) := by simp [ri]
theorem ri_fz (xs : List Int) (lim : Option Nat) : Fz (.sl (ri xs) lim) := .sl _ _ fun r hr x hx => by
  simp only [ri, List.mem_map] at hr
  obtain ⟨a, _, rfl⟩ := hr
  simp at hx
  subst hx
  exact .int _ _
theorem ri_fz_iff (xs : List Int) (lim : Option Nat) : Fz (.sl (ri xs) lim) ↔ True := ⟨fun _ => trivial, fun _ => ri_fz xs lim⟩
theorem ri_of {rows : List (List AVal)} (h : ∀ r, r ∈ rows → ∃ n, r = [.int .i64 n] ∧ (Lit.int .i64 n).wf = true) : ∃ xs, rows = ri xs ∧ ∀ x, x ∈ xs → -9223372036854775808 ≤ x ∧ x < 9223372036854775808 := by
  induction rows with
  | nil => exact ⟨[], rfl, by simp⟩
  | cons r rows ih =>
    obtain ⟨xs, h1, h2⟩ := ih fun r hr => h r (by simp [hr])
    obtain ⟨n, h3, h4⟩ := h r (by simp)
    refine ⟨n :: xs, by rw [h1, h3]; rfl, fun x hx => ?_⟩
    rcases List.mem_cons.1 hx with rfl | hx
    · exact wf_i64 h4
    · exact h2 x hx

theorem shp_ints {P : Program} {m : Nat} {t e : TypeId} {x : AVal} (ht : P.underlying t = some (.slice e)) (he : P.underlying e = some (.int .i64)) (hc : (P.cellsOf e == 0) = false) (h : Shp P m t [x]) :
    ∃ xs lim, x = .sl (ri xs) lim ∧ xs.length ≤ maxLen ∧ ∀ x, x ∈ xs → -9223372036854775808 ≤ x ∧ x < 9223372036854775808 := by
  cases m with
  | zero => exact h.elim
  | succ m =>
    simp only [Shp, ht] at h
    rcases h with h | ⟨rows, lim, h1, h2, h3⟩
    · simp [h] at hc
    · injection h1 with h1
      have : ∀ r, r ∈ rows → ∃ n, r = [.int .i64 n] ∧ (Lit.int .i64 n).wf = true := fun r hr => by
        have := h3 r hr
        cases m with
        | zero => exact this.elim
        | succ m => simpa only [Shp, he] using this
      obtain ⟨xs, h4, h5⟩ := ri_of this
      exact ⟨xs, lim, by rw [h1, h4], by rw [h4, ri_length] at h2; exact h2, h5⟩

/-- The objects that are handed on, as they stand. -/
def FrzL (h h2 : Heap) : List AVal → List AVal → Prop
  | [], [] => True
  | x :: xs, y :: ys => Frz h (fun id => lk h2 id = none) x y ∧ FrzL h h2 xs ys
  | _, _ => False

theorem FrzL.get {h h2 : Heap} : ∀ {xs ys : List AVal}, FrzL h h2 xs ys → ys.length = xs.length ∧ ∀ (k : Nat) x y, xs[k]? = some x → ys[k]? = some y → Frz h (fun id => lk h2 id = none) x y
  | [], [], _ => ⟨rfl, fun k x y hx => by simp at hx⟩
  | x :: xs, y :: ys, f => by
    obtain ⟨h1, h2⟩ := FrzL.get f.2
    refine ⟨by simp [h1], fun k a b ha hb => ?_⟩
    cases k with
    | zero => simp at ha hb; subst ha; subst hb; exact f.1
    | succ k => exact h2 k a b (by simpa using ha) (by simpa using hb)
  | [], _ :: _, f => f.elim
  | _ :: _, [], f => f.elim

theorem FrzL.nil {h h2 : Heap} : FrzL h h2 [] [] := trivial
theorem FrzL.keep {h h2 : Heap} {x : AVal} {xs ys : List AVal} (f : FrzL h h2 xs ys) : FrzL h h2 (x :: xs) (x :: ys) := ⟨.refl x, f⟩
theorem FrzL.rows {h h2 : Heap} {id sz base len : Nat} {ex : Bool} {c esz : Nat} {rows rows' : List (List AVal)} {xs ys : List AVal} (hl : lk h id = some (.arr esz rows)) (hS : lk h2 id = none) (hsz : rows.length = sz) (hb : base + len ≤ sz) (hr : (rows.drop base).take len = rows')
    (f : FrzL h h2 xs ys) : FrzL h h2 (.ref id sz base len ex c :: xs) (.sl rows' none :: ys) := by
  subst hr
  exact ⟨Frz.ref0 hS hl hsz hb, f⟩

section
variable {P : Program} {n0 : Nat} {all : Array Oper} {K : St → Prop}

/-- A call that is handed objects; those that may still be seen behind it are given away. -/
theorem AO_callGE {o : Oper} {rest : List Oper} {i nx nx' : Nat} {tm tm' : List AVal} {hp hp' : Heap} {c : Call} {g : FuncId} {args args' : List AVal} {r : AVal} (hg : guardA all tm o = some true) (ho : o.op = .call c) (ht : target tm c = some (g, args))
    (hc : PCall P g args' (· = r)) (hh : ∀ id ob, lk hp' id = some ob → lk hp id = some ob) (hf : FrzL hp hp' args args')
    (htm : putT tm o.dst r = tm') (hn : nx + 1 = nx') (h : AO P n0 all rest (i + 1) K ⟨tm', hp', nx'⟩) : AO P n0 all (o :: rest) i K ⟨tm, hp, nx⟩ := by
  subst htm
  subst hn
  refine AO_call hg ho ht hc hf.get.1 hh hf.get.2 ?_
  rintro r' rfl
  exact h

/-- A call that is handed objects, and hands back numbers, texts, truths. -/
theorem AO_callNE {o : Oper} {rest : List Oper} {i nx nx' : Nat} {tm tm' : List AVal} {hp : Heap} {c : Call} {g : FuncId} {args args' : List AVal} {r : AVal} (hg : guardA all tm o = some true) (ho : o.op = .call c) (ht : target tm c = some (g, args))
    (hc : PCall P g args' (· = r)) (hf : FrzL hp [] args args') (hfl : Flat r)
    (htm : putT tm o.dst r = tm') (hn : nx + 1 = nx') (h : AO P n0 all rest (i + 1) K ⟨tm', hp, nx'⟩) : AO P n0 all (o :: rest) i K ⟨tm, hp, nx⟩ := by
  refine AO_callFE hg ho ht hc hf.get.1 (fun k x y hx hy => Frz.widen (fun _ _ => trivial) (hf.get.2 k x y hx hy)) hfl htm hn h

end

theorem no_lk (id : Nat) (ob : Ob) (h : Heap) : lk [] id = some ob → lk h id = some ob := fun e => by simp [lk] at e

end Go.AM
