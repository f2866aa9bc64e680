/-
  AM, merged: 37 40 41 42 43.
-/
import Derived.Test.YtdgjelfeclgolaaAMC

section
set_option linter.unusedVariables false
namespace Go.AM
open Go

/-- Only objects that were there are looked at. -/
theorem indepB_old {n n0 M m : Nat} {Pr : List Nat} {tc : List (Bool × List Nat)} (hm : M ≤ m) (hn : m ≤ n0) (h : indepB n M Pr tc = true) (ho : (tc.all fun e => e.2.all fun j => decide (j < M)) = true) : indepB n n0 Pr tc = true := by
  refine indepB_shift hm hn h ?_
  rw [List.all_eq_true] at ho
  refine (List.map_congr_left (g := id) fun e he => ?_).trans (List.map_id _)
  have := ho e he
  rw [List.all_eq_true] at this
  refine Prod.ext rfl ?_
  refine (List.map_congr_left (g := id) fun j hj => ?_).trans (List.map_id _)
  have := this j hj
  simp only [decide_eq_true_eq] at this
  simp [this]

end Go.AM

namespace Go.AM
open Go

/-- The rows of whole numbers. -/
def ri (xs : List Int) : List (List AVal) := xs.map fun x => [.int .i64 x]

theorem ri_length (xs : List Int) : (ri xs).length = xs.length := by simp [ri]
theorem ri_get {xs : List Int} {i : Nat} (h : i < xs.length) : (ri xs)[i]? = some [.int .i64 (xs.getD i 0)] := by
  simp [ri, List.getElem?_eq_getElem h, List.getD_eq_getElem?_getD]
theorem ri_all (xs : List Int) : (∀ r, r ∈ ri xs → r.length = 1) = True := by simp [ri]
theorem ri_set (xs : List Int) (i : Nat) (v : Int) : (ri xs).set i [.int .i64 v] = ri (xs.set i v) := by simp [ri, List.map_set]
theorem ri_append (xs ys : List Int) : ri xs ++ ri ys = ri (xs ++ ys) := by simp [ri]
theorem ri_snoc (xs : List Int) (v : Int) : ri xs ++ [[.int .i64 v]] = ri (xs ++ [v]) := by simp [ri]
theorem ri_drop (xs : List Int) (n : Nat) : (ri xs).drop n = ri (xs.drop n) := by simp [ri]
theorem ri_take (xs : List Int) (n : Nat) : (ri xs).take n = ri (xs.take n) := by simp [ri]
theorem ri_fz (xs : List Int) (lim : Option Nat) : Fz (.sl (ri xs) lim) := .sl _ _ fun r hr x hx => by
  simp only [ri, List.mem_map] at hr
  obtain ⟨a, _, rfl⟩ := hr
  simp at hx
  subst hx
  exact .int _ _
theorem ri_fz_iff (xs : List Int) (lim : Option Nat) : Fz (.sl (ri xs) lim) ↔ True := ⟨fun _ => trivial, fun _ => ri_fz xs lim⟩
theorem ri_of {rows : List (List AVal)} (h : ∀ r, r ∈ rows → ∃ n, r = [.int .i64 n] ∧ (Lit.int .i64 n).wf = true) : ∃ xs, rows = ri xs ∧ ∀ x, x ∈ xs → -9223372036854775808 ≤ x ∧ x < 9223372036854775808 := by
  induction rows with
  | nil => exact ⟨[], rfl, by simp⟩
  | cons r rows ih =>
    obtain ⟨xs, h1, h2⟩ := ih fun r hr => h r (by simp [hr])
    obtain ⟨n, h3, h4⟩ := h r (by simp)
    refine ⟨n :: xs, by rw [h1, h3]; rfl, fun x hx => ?_⟩
    rcases List.mem_cons.1 hx with rfl | hx
    · exact wf_i64 h4
    · exact h2 x hx

theorem shp_ints {P : Program} {m : Nat} {t e : TypeId} {x : AVal} (ht : P.underlying t = some (.slice e)) (he : P.underlying e = some (.int .i64)) (hc : (P.cellsOf e == 0) = false) (h : Shp P m t [x]) :
    ∃ xs lim, x = .sl (ri xs) lim ∧ xs.length ≤ maxLen ∧ ∀ x, x ∈ xs → -9223372036854775808 ≤ x ∧ x < 9223372036854775808 := by
  cases m with
  | zero => exact h.elim
  | succ m =>
    simp only [Shp, ht] at h
    rcases h with h | ⟨rows, lim, h1, h2, h3⟩
    · simp [h] at hc
    · injection h1 with h1
      have : ∀ r, r ∈ rows → ∃ n, r = [.int .i64 n] ∧ (Lit.int .i64 n).wf = true := fun r hr => by
        have := h3 r hr
        cases m with
        | zero => exact this.elim
        | succ m => simpa only [Shp, he] using this
      obtain ⟨xs, h4, h5⟩ := ri_of this
      exact ⟨xs, lim, by rw [h1, h4], by rw [h4, ri_length] at h2; exact h2, h5⟩

/-- The objects that are handed on, as they stand. -/
def FrzL (h h2 : Heap) : List AVal → List AVal → Prop
  | [], [] => True
  | x :: xs, y :: ys => Frz h (fun id => lk h2 id = none) x y ∧ FrzL h h2 xs ys
  | _, _ => False

theorem FrzL.get {h h2 : Heap} : ∀ {xs ys : List AVal}, FrzL h h2 xs ys → ys.length = xs.length ∧ ∀ (k : Nat) x y, xs[k]? = some x → ys[k]? = some y → Frz h (fun id => lk h2 id = none) x y
  | [], [], _ => ⟨rfl, fun k x y hx => by simp at hx⟩
  | x :: xs, y :: ys, f => by
    obtain ⟨h1, h2⟩ := FrzL.get f.2
    refine ⟨by simp [h1], fun k a b ha hb => ?_⟩
    cases k with
    | zero => simp at ha hb; subst ha; subst hb; exact f.1
    | succ k => exact h2 k a b (by simpa using ha) (by simpa using hb)
  | [], _ :: _, f => f.elim
  | _ :: _, [], f => f.elim

theorem FrzL.nil {h h2 : Heap} : FrzL h h2 [] [] := trivial
theorem FrzL.keep {h h2 : Heap} {x : AVal} {xs ys : List AVal} (f : FrzL h h2 xs ys) : FrzL h h2 (x :: xs) (x :: ys) := ⟨.refl x, f⟩
theorem FrzL.rows {h h2 : Heap} {id sz base len : Nat} {ex : Bool} {c esz : Nat} {rows rows' : List (List AVal)} {xs ys : List AVal} (hl : lk h id = some (.arr esz rows)) (hS : lk h2 id = none) (hsz : rows.length = sz) (hb : base + len ≤ sz) (hr : (rows.drop base).take len = rows')
    (f : FrzL h h2 xs ys) : FrzL h h2 (.ref id sz base len ex c :: xs) (.sl rows' none :: ys) := by
  subst hr
  exact ⟨Frz.ref0 hS hl hsz hb, f⟩

section
variable {fl : Bool} {P : Program} {n0 : Nat} {all : Array Oper} {K : St → Prop}

/-- A call that is handed objects; those that may still be seen behind it are given away. -/
theorem AO_callGE {o : Oper} {rest : List Oper} {i nx nx' : Nat} {tm tm' : List AVal} {hp hp' : Heap} {c : Call} {g : FuncId} {args args' : List AVal} {r : AVal} (hg : guardA all tm o = some true) (ho : o.op = .call c) (ht : target tm c = some (g, args))
    (hc : PCall P g args' (· = r)) (hh : ∀ id ob, lk hp' id = some ob → lk hp id = some ob) (hf : FrzL hp hp' args args')
    (htm : putT tm o.dst r = tm') (hn : nx + 1 = nx') (h : AO P n0 all rest (i + 1) K ⟨tm', hp', nx'⟩) : AO P n0 all (o :: rest) i K ⟨tm, hp, nx⟩ := by
  subst htm
  subst hn
  refine AO_call hg ho ht hc hf.get.1 hh hf.get.2 ?_
  rintro r' rfl
  exact h

/-- A call that is handed objects, and hands back numbers, texts, truths. -/
theorem AO_callNE {o : Oper} {rest : List Oper} {i nx nx' : Nat} {tm tm' : List AVal} {hp : Heap} {c : Call} {g : FuncId} {args args' : List AVal} {r : AVal} (hg : guardA all tm o = some true) (ho : o.op = .call c) (ht : target tm c = some (g, args))
    (hc : PCall P g args' (· = r)) (hf : FrzL hp [] args args') (hfl : Flat r)
    (htm : putT tm o.dst r = tm') (hn : nx + 1 = nx') (h : AO P n0 all rest (i + 1) K ⟨tm', hp, nx'⟩) : AO P n0 all (o :: rest) i K ⟨tm, hp, nx⟩ := by
  refine AO_callFE hg ho ht hc hf.get.1 (fun k x y hx hy => Frz.widen (fun _ _ => trivial) (hf.get.2 k x y hx hy)) hfl htm hn h

end

theorem no_lk (id : Nat) (ob : Ob) (h : Heap) : lk [] id = some ob → lk h id = some ob := fun e => by simp [lk] at e

end Go.AM

namespace Go.AM
open Go

/-- Nothing is written, and only what was there is looked at. -/
def allOld (n0 : Nat) : List (Bool × List Nat) → Prop
  | [] => True
  | e :: r => e.1 = false ∧ (∀ j, j ∈ e.2 → j < n0) ∧ allOld n0 r

theorem allOld_mem {n0 : Nat} : ∀ {tc : List (Bool × List Nat)}, allOld n0 tc → ∀ e, e ∈ tc → e.1 = false ∧ ∀ j, j ∈ e.2 → j < n0
  | [], _, e, he => by cases he
  | a :: r, h, e, he => by
    rcases List.mem_cons.1 he with rfl | he
    · exact ⟨h.1, h.2.1⟩
    · exact allOld_mem h.2.2 e he

theorem indepB_reads {n n0 : Nat} {Pr : List Nat} {tc : List (Bool × List Nat)} (h : allOld n0 tc) : indepB n n0 Pr tc = true := by
  unfold indepB
  rw [List.all_eq_true]
  intro i _
  rw [List.all_eq_true]
  intro k _
  have hg : ∀ i : Nat, (tc.getD i (false, [])).1 = false ∧ ∀ j, j ∈ (tc.getD i (false, [])).2 → j < n0 := fun i => by
    rw [List.getD_eq_getElem?_getD]
    cases hi : tc[i]? with
    | none => exact ⟨rfl, fun j hj => by cases hj⟩
    | some e => exact allOld_mem h e (List.mem_of_getElem? hi)
  simp only [Bool.or_eq_true, Bool.and_eq_true, Bool.not_eq_true', beq_iff_eq]
  refine .inr ⟨.inl (hg i).1, ?_⟩
  rw [Bool.eq_false_iff]
  intro hc
  rw [List.contains_iff_mem] at hc
  have := (hg k).2 _ hc
  omega

theorem allOld_nil {n0 : Nat} : allOld n0 [] := trivial
theorem allOld_cons {n0 : Nat} {b : Bool} {l : List Nat} {r : List (Bool × List Nat)} (hb : b = false) (hl : ∀ j, j ∈ l → j < n0) (h : allOld n0 r) : allOld n0 ((b, l) :: r) := ⟨hb, hl, h⟩

end Go.AM

namespace Go.AM
open Go

theorem lk_head (id : Nat) (o : Ob) (h : Heap) : lk ((id, o) :: h) id = some o := by simp [lk]

theorem FrzL.whole {h h2 : Heap} {id n : Nat} {ex : Bool} {c esz : Nat} {rows : List (List AVal)} {xs ys : List AVal} (hl : lk h id = some (.arr esz rows)) (hS : lk h2 id = none) (hn : rows.length = n)
    (f : FrzL h h2 xs ys) : FrzL h h2 (.ref id n 0 n ex c :: xs) (.sl rows none :: ys) := by
  refine FrzL.rows hl hS hn (by omega) ?_ f
  rw [List.drop_zero, List.take_of_length_le (by omega)]

end Go.AM

namespace Go.AM
open Go

/-- The slot that is only handed on. -/
def mvT : Op → Option Tmp
  | .move (.tmp t) => some t
  | .assign (.tmp t) => some t
  | _ => none

theorem astep_mv {P : Program} {tm : List AVal} {hp : Heap} {nx : Nat} {o : Oper} {t : Tmp} {y : AVal} (hop : mvT o.op = some t) (hy : tm[t]? = some y) : astep P tm hp nx o = some (y, hp) := by
  obtain ⟨dst, op, type, pos, after, guard⟩ := o
  have he : ev tm (.tmp t) = y := by simp only [ev, List.getD_eq_getElem?_getD, hy, Option.getD_some]
  cases op <;> simp only [mvT] at hop <;> try (cases hop; done)
  · rename_i x
    cases x <;> simp at hop
    subst hop
    simp only [astep, he]
  · rename_i x
    cases x <;> simp at hop
    subst hop
    simp only [astep, he]

section
variable {fl : Bool} {P : Program} {n0 : Nat} {all : Array Oper} {K : St → Prop}

theorem AO_mvE {o : Oper} {rest : List Oper} {i nx nx' : Nat} {tm tm' : List AVal} {hp : Heap} {t : Tmp} {y : AVal} (hop : mvT o.op = some t) (hg : guardA all tm o = some true) (hy : tm[t]? = some y)
    (ht : putT tm o.dst y = tm') (hn : nx + 1 = nx') (h : AO P n0 all rest (i + 1) K ⟨tm', hp, nx'⟩) : AO P n0 all (o :: rest) i K ⟨tm, hp, nx⟩ := AO_stepE hg (astep_mv hop hy) ht hn h

theorem D_mvE {nx : Nat} {o : Oper} {rest : List Oper} {i i' : Nat} {tm tm' : List AVal} {hp : Heap} {tc tc' : List (Bool × List Nat)} {t : Tmp} {y : AVal} (hop : mvT o.op = some t) (hg : guardA all tm o = some true) (hy : tm[t]? = some y)
    (ht : putT tm o.dst y = tm') (hn : i + 1 = i') (hc : tc ++ [(isWriter o, touched tm o)] = tc') (h : DW fl P all nx K rest i' tm' hp tc') : DW fl P all nx K (o :: rest) i tm hp tc := D_stepE hg (astep_mv hop hy) ht hn hc h

end
end Go.AM

set_option linter.unusedVariables false
namespace Go.AM
open Go

/-- Neither writes nor makes an object. -/
def rdOp (o : Oper) : Bool :=
  match o.op with
  | .store .. => false
  | .alloc .. => false
  | .box .. => false
  | .buildSlice .. => false
  | .makeSlice .. => false
  | .makeMap .. => false
  | .mapUpdate .. => false
  | .insert .. => false
  | .mapEntry .. => false
  | .entryStore .. => false
  | .call c => match c.callee with | .builtin .append => false | .builtin .delete => false | _ => true
  | _ => true

theorem allOld_append {n0 : Nat} : ∀ {tc : List (Bool × List Nat)} {l : List Nat}, allOld n0 tc → (∀ j, j ∈ l → j < n0) → allOld n0 (tc ++ [(false, l)])
  | [], _, _, hl => ⟨rfl, hl, trivial⟩
  | _ :: _, _, h, hl => ⟨h.1, h.2.1, allOld_append h.2.2 hl⟩

/-- What is left of a drawn row that only reads. -/
def DV (P : Program) (all : Array Oper) (nx : Nat) (K : St → Prop) (rest : List Oper) (i : Nat) (tm : List AVal) (h : Heap) : Prop := ∀ tc, allOld nx tc → DW true P all nx K rest i tm h tc

theorem touched_nil {tm : List AVal} {o : Oper} {nx : Nat} (e : touched tm o = []) (j : Nat) (hj : j ∈ touched tm o) : j < nx := by rw [e] at hj; cases hj
theorem touched_one {tm : List AVal} {o : Oper} {nx id : Nat} (e : touched tm o = [id]) (h : id < nx) (j : Nat) (hj : j ∈ touched tm o) : j < nx := by
  rw [e] at hj
  simp at hj
  omega

section
variable {fl : Bool} {P : Program} {n0 : Nat} {all : Array Oper} {K : St → Prop}

theorem W_drwR {Q : Exit → St → Prop} {tm : List AVal} {hp : Heap} {nx : Nat} {k : List It} {id : Nat} {ops : List Oper} (hr : ops.all rdOp = true) (hm : P.follows .mixedOrders = true) (hc : chk ops.toArray (preds ops.toArray) = true)
    (h : ∀ K : St → Prop, (∀ s', unw P n0 k Q .normal s' → K s') → DV P ops.toArray nx K ops 0 tm hp) : AWP P n0 (.region id ops.toArray true) (unw P n0 k Q) ⟨tm, hp, nx⟩ :=
  W_drw hm hc fun K hK => h K hK [] trivial

theorem V_stepE {nx : Nat} {o : Oper} {rest : List Oper} {i i' : Nat} {tm tm' : List AVal} {hp hp' : Heap} {y : AVal} (hg : guardA all tm o = some true) (hw : isWriter o = false) (hl : ∀ j, j ∈ touched tm o → j < nx) (hs : astep P tm hp (nx + i) o = some (y, hp'))
    (ht : putT tm o.dst y = tm') (hn : i + 1 = i') (h : DV P all nx K rest i' tm' hp') : DV P all nx K (o :: rest) i tm hp := fun tc htc =>
  D_stepE hg hs ht hn rfl (h _ (by rw [hw]; exact allOld_append htc hl))

theorem V_mvE {nx : Nat} {o : Oper} {rest : List Oper} {i i' : Nat} {tm tm' : List AVal} {hp : Heap} {t : Tmp} {y : AVal} (hop : mvT o.op = some t) (hg : guardA all tm o = some true) (hw : isWriter o = false) (hy : tm[t]? = some y) (hl : ∀ j, j ∈ touched tm o → j < nx)
    (ht : putT tm o.dst y = tm') (hn : i + 1 = i') (h : DV P all nx K rest i' tm' hp) : DV P all nx K (o :: rest) i tm hp := V_stepE hg hw hl (astep_mv hop hy) ht hn h

theorem V_skipE {nx : Nat} {o : Oper} {rest : List Oper} {i i' : Nat} {tm tm' : List AVal} {hp : Heap} (hg : guardA all tm o = some false)
    (ht : putT tm o.dst (.tuple []) = tm') (hn : i + 1 = i') (h : DV P all nx K rest i' tm' hp) : DV P all nx K (o :: rest) i tm hp := fun tc htc =>
  D_skipE hg ht hn rfl (h _ (allOld_append htc fun j hj => by cases hj))

theorem V_callE {nx : Nat} {o : Oper} {rest : List Oper} {i i' : Nat} {tm tm' : List AVal} {hp : Heap} {c : Call} {g : FuncId} {args : List AVal} {r : AVal} (hg : guardA all tm o = some true) (ho : o.op = .call c) (ht : target tm c = some (g, args))
    (hp' : PCall P g args (· = r)) (htm : putT tm o.dst r = tm') (hn : i + 1 = i') (h : DV P all nx K rest i' tm' hp) : DV P all nx K (o :: rest) i tm hp := fun tc htc =>
  D_callE hg ho ht hp' htm hn rfl (h _ (allOld_append htc fun j hj => by cases hj))

theorem V_split {nx : Nat} {rest : List Oper} {i : Nat} {tm t1 t2 : List AVal} {hp : Heap} {o : Oper} {j : Nat} {want : Bool} {d : Tmp} {b : Bool} (hg : o.guard = some (j, want)) (hd : (all[j]?).bind (·.dst) = some d) (hb : tm[d]? = some (.bool b))
    (e1 : tm.set d (.bool true) = t1) (e2 : tm.set d (.bool false) = t2) (h1 : b = true → DV P all nx K (o :: rest) i t1 hp) (h2 : b = false → DV P all nx K (o :: rest) i t2 hp) : DV P all nx K (o :: rest) i tm hp := fun tc htc =>
  D_split hg hd hb e1 e2 (fun h => h1 h tc htc) (fun h => h2 h tc htc)

theorem V_end {nx n : Nat} {i : Nat} {tm : List AVal} {h : Heap} (hi : i = all.size) (hn : nx + i = n) (hk : K ⟨tm, h, n⟩) : DV P all nx K [] i tm h := fun tc htc => D_end hi (indepB_reads htc) hn hk

end
end Go.AM

set_option linter.unusedVariables false
namespace Go.AM
open Go

def nmL (n : Nat) : List AVal → Prop
  | [] => True
  | x :: xs => Nm (Lt n) x ∧ nmL n xs

def nmH (n : Nat) : Heap → Prop
  | [] => True
  | e :: h => e.1 < n ∧ e.2.nm (Lt n) ∧ nmH n h

theorem nmL_mem {n : Nat} : ∀ {xs : List AVal}, nmL n xs → ∀ x, x ∈ xs → Nm (Lt n) x
  | [], _, x, hx => by cases hx
  | y :: ys, h, x, hx => by
    rcases List.mem_cons.1 hx with rfl | hx
    · exact h.1
    · exact nmL_mem h.2 x hx

theorem nmH_lk {n : Nat} : ∀ {h : Heap}, nmH n h → ∀ id o, lk h id = some o → id < n ∧ o.nm (Lt n)
  | [], _, id, o, e => by simp [lk] at e
  | (i, ob) :: h, hh, id, o, e => by
    simp only [lk] at e
    split at e
    · rename_i he
      injection e with e
      subst he
      subst e
      exact ⟨hh.1, hh.2.1⟩
    · exact nmH_lk hh.2.2 id o e

theorem nm_junk (p : Nat → Prop) : Nm p .junk ↔ True := ⟨fun _ => trivial, fun _ => .junk⟩
theorem nm_int (p : Nat → Prop) (k : IntKind) (n : Int) : Nm p (.int k n) ↔ True := ⟨fun _ => trivial, fun _ => .int k n⟩
theorem nm_bool (p : Nat → Prop) (b : Bool) : Nm p (.bool b) ↔ True := ⟨fun _ => trivial, fun _ => .bool b⟩
theorem nm_str (p : Nat → Prop) (s : ByteArray) : Nm p (.str s) ↔ True := ⟨fun _ => trivial, fun _ => .str s⟩
theorem nm_ref (n id sz base len : Nat) (ex : Bool) (c : Nat) : Nm (Lt n) (.ref id sz base len ex c) ↔ id < n := ⟨fun h => by cases h with | ref _ _ _ _ _ _ h => exact h, fun h => .ref _ _ _ _ _ _ h⟩
theorem nm_ptr (n id sz row col : Nat) : Nm (Lt n) (.ptr id sz row col) ↔ id < n := ⟨fun h => by cases h with | ptr _ _ _ _ h => exact h, fun h => .ptr _ _ _ _ h⟩
theorem nm_ri (p : Nat → Prop) (xs : List Int) (lim : Option Nat) : Nm p (.sl (ri xs) lim) ↔ True := ⟨fun _ => trivial, fun _ => Fz.nm (ri_fz xs lim) p⟩
theorem nm_nil (p : Nat → Prop) (lim : Option Nat) : Nm p (.sl [] lim) ↔ True := ⟨fun _ => trivial, fun _ => .sl _ _ (by simp)⟩
theorem nm_agg (p : Nat → Prop) (xs : List AVal) : Nm p (.agg xs) ↔ ∀ x, x ∈ xs → Nm p x := ⟨fun h => by cases h with | agg _ h => exact h, fun h => .agg _ h⟩
theorem nm_ori (p : Nat → Prop) (esz : Nat) (xs : List Int) : (Ob.arr esz (ri xs)).nm p ↔ True := ⟨fun _ => trivial, fun _ r hr x hx => by
  simp only [ri, List.mem_map] at hr
  obtain ⟨a, _, rfl⟩ := hr
  simp at hx
  subst hx
  exact .int _ _⟩
theorem nm_oarr (p : Nat → Prop) (esz : Nat) (rows : List (List AVal)) : (Ob.arr esz rows).nm p ↔ ∀ r, r ∈ rows → ∀ x, x ∈ r → Nm p x := Iff.rfl

theorem weak_mk {n0 nx nx' : Nat} {tm tm' : List AVal} {h h' : Heap} (d : dropL tm tm') (hh : ∀ id o, lk h' id = some o → lk h id = some o) (nm : nmL nx' tm') (nmh : nmH nx' h') (low : n0 ≤ nx') : Weak n0 ⟨tm, h, nx⟩ ⟨tm', h', nx'⟩ :=
  ⟨dropL_len d, dropL_at d, hh, nmL_mem nm, nmH_lk nmh, low⟩

theorem lk_same (h : Heap) (id : Nat) (o : Ob) (e : lk h id = some o) : lk h id = some o := e

theorem sub_keep {i : Nat} {ob : Ob} {h h' : Heap} (hh : ∀ id o, lk h' id = some o → lk h id = some o) (id : Nat) (o : Ob) (e : lk ((i, ob) :: h') id = some o) : lk ((i, ob) :: h) id = some o := by
  simp only [lk] at e ⊢
  split at e
  · rename_i hi; rw [if_pos hi]; exact e
  · rename_i hi; rw [if_neg hi]; exact hh id o e
theorem sub_drop {i : Nat} {ob : Ob} {h h' : Heap} (hh : ∀ id o, lk h' id = some o → lk h id = some o) (hn : lk h' i = none) (id : Nat) (o : Ob) (e : lk h' id = some o) : lk ((i, ob) :: h) id = some o := by
  simp only [lk]
  split
  · rename_i hi; subst hi; rw [hn] at e; cases e
  · exact hh id o e

def forW (n0 id : Nat) (J : St → Prop) (R : Exit → St → Prop) : Exit → St → Prop
  | .exit i, s => if i = id then ∃ s', J s' ∧ Weak n0 s s' else R (.exit i) s
  | e, s => R e s

section
variable {fl : Bool} {P : Program} {n0 : Nat} {Q : Exit → St → Prop} {s : St} {k : List It}

theorem W_forW {c : Code} {id : Nat} (I : Nat → St → Prop) (J : St → Prop) (n : Nat) (s' : St) (h0 : I n s') (hd : Weak n0 s s') (after : ∀ s, J s → unw P n0 k Q .normal s)
    (round : ∀ n s, I n s → AWP P n0 c (unw P n0 [] (thenQ (fun s' => ∃ m, m < n ∧ ∃ s'', I m s'' ∧ Weak n0 s' s'') (forW n0 id J (unw P n0 k Q)))) s) : AWP P n0 (.loop c) (unw P n0 (.blk id :: k) Q) s := by
  refine W_loop I n s' h0 hd fun m s1 hI => ?_
  intro ext β a w i
  refine wp_mono (round m s1 hI ext β a w i) ?_
  rintro e a2 w2 ⟨β2, s2, q, i2, g2⟩
  cases e with
  | normal => exact ⟨β2, s2, q, i2, g2⟩
  | exit j =>
    change forW n0 id J (unw P n0 k Q) (.exit j) s2 at q
    simp only [forW] at q
    by_cases hj : j = id
    · rw [if_pos hj] at q
      obtain ⟨s3, hJ, hd3⟩ := q
      obtain ⟨i3, g3⟩ := i2.weak hd3
      subst hj
      exact ⟨β2, s3, E_blk (after s3 hJ), i3, g2.trans g3⟩
    · rw [if_neg hj] at q
      exact ⟨β2, s2, E_blk_ne hj q, i2, g2⟩
  | goto l => exact ⟨β2, s2, q, i2, g2⟩
  | ret => exact ⟨β2, s2, q, i2, g2⟩
  | panic ch => exact ⟨β2, s2, q, i2, g2⟩
  | outgrown => exact ⟨β2, s2, q, i2, g2⟩

theorem FW_exit {F : St → Prop} {id : Nat} {J : St → Prop} {R : Exit → St → Prop} (h : ∃ s', J s' ∧ Weak n0 s s') : unw P n0 [] (thenQ F (forW n0 id J R)) (.exit id) s := by
  show forW n0 id J R (.exit id) s
  simp only [forW, if_true]
  exact h
theorem FW_ret {F : St → Prop} {id : Nat} {J : St → Prop} (h : unw P n0 k Q .ret s) : unw P n0 [] (thenQ F (forW n0 id J (unw P n0 k Q))) .ret s := h
theorem FW_out {F : St → Prop} {id i : Nat} {J : St → Prop} (hi : ¬ i = id) (h : unw P n0 k Q (.exit i) s) : unw P n0 [] (thenQ F (forW n0 id J (unw P n0 k Q))) (.exit i) s := by
  show forW n0 id J _ (.exit i) s
  simp only [forW, if_neg hi]
  exact h

/-- A state is given up for one that says less, and counts its objects anew. -/
theorem W_weak {c : Code} (s' : St) (hd : Weak n0 s s') (h : AWP P n0 c (unw P n0 k Q) s') : AWP P n0 c (unw P n0 k Q) s := AWP_weak s' hd h

end
end Go.AM

set_option linter.unusedVariables false
namespace Go.AM
open Go

/-- Each slot stays, or is given up, or what it names stands as it is from now on. -/
def FzL (h h2 : Heap) : List AVal → List AVal → Prop
  | [], [] => True
  | x :: xs, y :: ys => (y = x ∨ y = .junk ∨ (Frz h (fun id => lk h2 id = none) x y ∧ Fz y)) ∧ FzL h h2 xs ys
  | _, _ => False

theorem FzL.get {h h2 : Heap} : ∀ {xs ys : List AVal}, FzL h h2 xs ys → ys.length = xs.length ∧ ∀ (k : Nat) x y, xs[k]? = some x → ys[k]? = some y → y = x ∨ y = .junk ∨ (Frz h (fun id => lk h2 id = none) x y ∧ Fz y)
  | [], [], _ => ⟨rfl, fun k x y hx => by simp at hx⟩
  | x :: xs, y :: ys, f => by
    obtain ⟨h1, h2⟩ := FzL.get f.2
    refine ⟨by simp [h1], fun k a b ha hb => ?_⟩
    cases k with
    | zero => simp at ha hb; subst ha; subst hb; exact f.1
    | succ k => exact h2 k a b (by simpa using ha) (by simpa using hb)
  | [], _ :: _, f => f.elim
  | _ :: _, [], f => f.elim

theorem FzL.nil {h h2 : Heap} : FzL h h2 [] [] := trivial
theorem FzL.keep {h h2 : Heap} {x : AVal} {xs ys : List AVal} (f : FzL h h2 xs ys) : FzL h h2 (x :: xs) (x :: ys) := ⟨.inl rfl, f⟩
theorem FzL.junk {h h2 : Heap} {x : AVal} {xs ys : List AVal} (f : FzL h h2 xs ys) : FzL h h2 (x :: xs) (.junk :: ys) := ⟨.inr (.inl rfl), f⟩
theorem FzL.whole {h h2 : Heap} {id n : Nat} {ex : Bool} {c esz : Nat} {rows : List (List AVal)} {xs ys : List AVal} (hl : lk h id = some (.arr esz rows)) (hS : lk h2 id = none) (hn : rows.length = n) (hz : Fz (.sl rows none))
    (f : FzL h h2 xs ys) : FzL h h2 (.ref id n 0 n ex c :: xs) (.sl rows none :: ys) := by
  refine ⟨.inr (.inr ⟨?_, hz⟩), f⟩
  have := Frz.ref0 (h := h) (S := fun id => lk h2 id = none) (id := id) (sz := n) (base := 0) (len := n) (ex := ex) (c := c) hS hl hn (by omega)
  rw [List.drop_zero, List.take_of_length_le (by omega)] at this
  exact this

theorem fz_sl_iff (rows : List (List AVal)) (lim : Option Nat) : Fz (.sl rows lim) ↔ ∀ r, r ∈ rows → ∀ x, x ∈ r → Fz x := ⟨fun h => by cases h with | sl _ _ h => exact h, fun h => .sl _ _ h⟩

theorem SIn.freeze {n0 : Nat} {ext : Nat → Prop} {β : Nat → Option Nat} {tm tm' : List AVal} {h h2 : Heap} {nx : Nat} {a : Act} {w : World} (i : SIn n0 ext β ⟨tm, h, nx⟩ a w) (hsub : ∀ id ob, lk h2 id = some ob → lk h id = some ob)
    (hf : FzL h h2 tm tm') : SIn n0 ext β ⟨tm', h2, nx⟩ a w ∧ Goes n0 ext β h w β h2 w := by
  obtain ⟨hl, hg⟩ := hf.get
  have hlow : n0 ≤ nx := by
    rcases Nat.lt_or_ge nx n0 with h8 | h8
    · exact absurd (i.low nx h8) (Nat.lt_irrefl _)
    · exact h8
  have hwk : Weak n0 ⟨tm, h, nx⟩ ⟨tm, h2, nx⟩ := ⟨rfl, fun k x hx => .inr hx, hsub, i.nm, fun id ob ho => i.heap.nm id ob (hsub id ob ho), hlow⟩
  obtain ⟨i2, g2⟩ := i.weak hwk
  have hown2 : ∀ b, owns β h2 b → owns β h b := fun b ⟨id, ob, h1, h3⟩ => ⟨id, ob, hsub id ob h1, h3⟩
  have st : Step (fun _ => False) (cx (fun b => ext b ∨ owns β h2 b) (fun _ => none) [] w) (cx ext β h2 w) :=
    ⟨fun b o v h1 h4 => ⟨fun h3 => h1 (Or.inl h3), h4⟩, fun _ _ h => h, fun _ h => h.elim, fun _ h => h.elim⟩
  refine ⟨⟨i2.heap, by rw [i2.size]; exact hl.symm, fun k y v hy hv => ?_, fun y hy => ?_, i2.defers, i2.low⟩, g2⟩
  · have hk : k < tm.length := by rw [← hl]; exact (List.getElem?_eq_some_iff.1 hy).1
    rcases hg k tm[k] y (List.getElem?_eq_getElem hk) hy with rfl | rfl | ⟨hfz, hz⟩
    · exact i2.rel k _ v (List.getElem?_eq_getElem hk) hv
    · exact .junk v
    · have hv1 := i.rel k _ v (List.getElem?_eq_getElem hk) hv
      refine (Frz.rel (ext' := fun b => ext b ∨ owns β h2 b) i.heap (fun b hb => hb.imp (fun h => h) (hown2 b)) (fun id ob b hS hl hb hx => ?_) hfz v hv1).step st hz
      rcases hx with hx | ⟨id', ob', h3, h4⟩
      · exact (i.heap.ext b hx).2 ⟨id, ob, hl, hb⟩
      · have : id = id' := i.heap.inj id id' ob ob' b hl (hsub id' ob' h3) hb h4
        subst this
        rw [hS] at h3; cases h3
  · obtain ⟨k, hk⟩ := List.getElem?_of_mem hy
    have hk' : k < tm.length := by rw [← hl]; exact (List.getElem?_eq_some_iff.1 hk).1
    rcases hg k tm[k] y (List.getElem?_eq_getElem hk') hk with rfl | rfl | ⟨hfz, hz⟩
    · exact i.nm _ (List.getElem_mem hk')
    · exact .junk
    · exact Fz.nm hz _

section
variable {fl : Bool} {P : Program} {n0 : Nat} {all : Array Oper} {K : St → Prop} {Q : Exit → St → Prop} {k : List It}

theorem AO_freeze {rest : List Oper} {i nx : Nat} {tm tm' : List AVal} {h h2 : Heap} (hsub : ∀ id ob, lk h2 id = some ob → lk h id = some ob) (hf : FzL h h2 tm tm') (ha : AO P n0 all rest i K ⟨tm', h2, nx⟩) :
    AO P n0 all rest i K ⟨tm, h, nx⟩ := fun hd ext β a w hs Q hq =>
  let ⟨i2, g2⟩ := SIn.freeze hs hsub hf
  ha hd ext β a w i2 Q fun β' s' a' w' h1 h2 h3 => hq β' s' a' w' h1 h2 (g2.trans h3)

theorem W_freeze {c : Code} {nx : Nat} {tm tm' : List AVal} {h h2 : Heap} (hsub : ∀ id ob, lk h2 id = some ob → lk h id = some ob) (hf : FzL h h2 tm tm') (ha : AWP P n0 c (unw P n0 k Q) ⟨tm', h2, nx⟩) : AWP P n0 c (unw P n0 k Q) ⟨tm, h, nx⟩ := by
  intro ext β a w i
  obtain ⟨i2, g2⟩ := SIn.freeze i hsub hf
  exact wp_mono (ha ext β a w i2) fun _ _ _ p => p.after g2

end
end Go.AM

namespace Go.AM
open Go

attribute [go_sem] true_or or_true true_implies false_implies implies_true and_true true_and if_true if_false ite_true ite_false Bool.false_eq_true Bool.true_eq_false Bool.not_true Bool.not_false beq_self_eq_true decide_true decide_false Nat.min_eq_left Nat.min_eq_right
  bne_self_eq_false beq_true beq_false Int.natCast_nonneg Int.toNat_natCast Nat.zero_add Int.le_refl ri_length ri_all

section
variable {fl : Bool} {P : Program} {all : Array Oper} {K : St → Prop}

/-- An operation that looks at no cell, in a drawn row that makes no object longer. -/
theorem D_adrE {nx : Nat} {o : Oper} {rest : List Oper} {i i' : Nat} {tm tm' : List AVal} {hp hp' : Heap} {tc tc' : List (Bool × List Nat)} {y : AVal} (ha : adrOp o = true) (hna : all.toList.all notApp = true) (hg : guardA all tm o = some true) (hl : ∀ j, j ∈ touched tm o → j < nx)
    (hs : astep P tm hp (nx + i) o = some (y, hp')) (ht : putT tm o.dst y = tm') (hn : i + 1 = i') (hc : tc ++ [(false, [])] = tc') (h : DW true P all nx K rest i' tm' hp tc') : DW true P all nx K (o :: rest) i tm hp tc := by
  subst ht
  subst hn
  subst hc
  exact fun hd => let ⟨ho, hd'⟩ := drop_cons hd; .adr i tm hp tc o y hp' ho hg rfl ha (by rw [← Array.all_toList]; exact hna) hl hs (h hd')

theorem D_admE {nx : Nat} {o : Oper} {rest : List Oper} {i i' : Nat} {tm tm' : List AVal} {hp : Heap} {tc tc' : List (Bool × List Nat)} {t : Tmp} {y : AVal} (hop : mvT o.op = some t) (ha : adrOp o = true) (hna : all.toList.all notApp = true) (hg : guardA all tm o = some true)
    (hl : ∀ j, j ∈ touched tm o → j < nx) (hy : tm[t]? = some y) (ht : putT tm o.dst y = tm') (hn : i + 1 = i') (hc : tc ++ [(false, [])] = tc') (h : DW true P all nx K rest i' tm' hp tc') : DW true P all nx K (o :: rest) i tm hp tc :=
  D_adrE ha hna hg hl (astep_mv hop hy) ht hn hc h

end
end Go.AM
end

section
set_option linter.unusedVariables false
set_option linter.unusedSimpArgs false
namespace Go.AM
open Go

/-! ### Arithmetic -/

theorem wrap_i {x : Int} (h0 : -9223372036854775808 ≤ x) (h1 : x ≤ 9223372036854775807) : IntKind.i64.wrap x = x := by rw [IntKind.wrap_i64]; omega
theorem wrap_u {x : Int} (h0 : 0 ≤ x) (h1 : x ≤ 18446744073709551615) : IntKind.u64.wrap x = x := by rw [IntKind.wrap_u64]; omega
theorem dec_t {c : Prop} [Decidable c] (h : c) : decide c = true := decide_eq_true h
theorem dec_f {c : Prop} [Decidable c] (h : ¬ c) : decide c = false := decide_eq_false h
theorem ite_t {α : Type} {c : Prop} [Decidable c] {a b : α} (h : c) : (if c then a else b) = a := if_pos h
theorem ite_f {α : Type} {c : Prop} [Decidable c] {a b : α} (h : ¬ c) : (if c then a else b) = b := if_neg h
theorem ibeq_t {a b : Int} (h : a = b) : (a == b) = true := by simp [h]
theorem ibeq_f {a b : Int} (h : ¬ a = b) : (a == b) = false := by simp [h]
theorem ibne_t {a b : Int} (h : ¬ a = b) : (a != b) = true := by simp [h]
theorem ibne_f {a b : Int} (h : a = b) : (a != b) = false := by simp [h]
theorem ibeq_iff {a b : Int} : ((a == b) = true) = (a = b) := by simp
theorem ibeq_niff {a b : Int} : ((a == b) = false) = (¬ a = b) := by simp
theorem ibne_iff {a b : Int} : ((a != b) = true) = (¬ a = b) := by simp
theorem ibne_niff {a b : Int} : ((a != b) = false) = (a = b) := by simp
theorem max_l {a b : Nat} (h : b ≤ a) : max a b = a := Nat.max_eq_left h
theorem max_r {a b : Nat} (h : a ≤ b) : max a b = b := Nat.max_eq_right h
theorem min_l {a b : Nat} (h : a ≤ b) : min a b = a := Nat.min_eq_left h
theorem min_r {a b : Nat} (h : b ≤ a) : min a b = b := Nat.min_eq_right h

theorem ba_beq (x y : ByteArray) : (x.toList == y.toList) = decide (x = y) := by
  by_cases h : x = y
  · subst h
    simp
  · have : ¬ x.toList = y.toList := fun e => h (by
      rw [ByteArray.toList_eq, ByteArray.toList_eq] at e
      exact ByteArray.ext (Array.ext' e))
    rw [beq_eq_false_iff_ne.2 this, decide_eq_false h]

/-! ### Structs that are held against each other, field by field -/

theorem aequal_struct {P : Program} {t : TypeId} {fs : List Fld} {n m : Nat} {z : AVal} {xs ys : List AVal} {r : Bool} (ht : tab P t = some ⟨.struct fs, n, m, z⟩) (hg : P.eqGuardType P.depth t = false) (hs : P.stoodInHeld t = false)
    (h : ∀ d, aeqs (aeq P (d + 1)) fs xs ys = some r) : aequal P t (.agg xs) (.agg ys) = some r := by
  have e : ∀ d, aeq P (d + 1) t (.agg xs) (.agg ys) = aeqs (aeq P d) fs xs ys := fun d => by
    simp only [aeq, ht, hs, Bool.false_eq_true, if_false]
  have e2 : aequal P t (.agg xs) (.agg ys) = if P.eqGuardType P.depth t then none else aeq P 10000 t (.agg xs) (.agg ys) := rfl
  rw [e2, hg, if_neg Bool.false_ne_true]
  exact (e 9999).trans (h 9998)

theorem aeqs_nil {F : TypeId → AVal → AVal → Option Bool} {xs ys : List AVal} : aeqs F [] xs ys = some true := rfl

theorem aeqs_cons {F : TypeId → AVal → AVal → Option Bool} {off ft : Nat} {fs : List Fld} {xs ys : List AVal} {u v : AVal} {q r : Bool} (hx : xs[off]? = some u) (hy : ys[off]? = some v) (hF : F ft u v = some q) (h : aeqs F fs xs ys = some r) :
    aeqs F (⟨off, 1, false, ft, false⟩ :: fs) xs ys = some (q && r) := by
  simp only [aeqs, apart, hx, hy, hF, h, Bool.false_eq_true, if_false]

theorem aeqs_int {P : Program} {d : Nat} {off ft : Nat} {fs : List Fld} {xs ys : List AVal} {k k0 : IntKind} {a b : Int} {n m : Nat} {z : AVal} {r : Bool} (ht : tab P ft = some ⟨.int k0, n, m, z⟩) (hx : xs[off]? = some (.int k a)) (hy : ys[off]? = some (.int k b))
    (h : aeqs (aeq P (d + 1)) fs xs ys = some r) : aeqs (aeq P (d + 1)) (⟨off, 1, false, ft, false⟩ :: fs) xs ys = some (decide (a = b) && r) := by
  refine aeqs_cons hx hy ?_ h
  have e : (a == b) = decide (a = b) := by by_cases h : a = b <;> simp [h]
  simp only [aeq, ht, if_true, e]

theorem aeqs_str {P : Program} {d : Nat} {off ft : Nat} {fs : List Fld} {xs ys : List AVal} {a b : ByteArray} {n m : Nat} {z : AVal} {r : Bool} (ht : tab P ft = some ⟨.str, n, m, z⟩) (hx : xs[off]? = some (.str a)) (hy : ys[off]? = some (.str b))
    (h : aeqs (aeq P (d + 1)) fs xs ys = some r) : aeqs (aeq P (d + 1)) (⟨off, 1, false, ft, false⟩ :: fs) xs ys = some (decide (a = b) && r) := by
  refine aeqs_cons hx hy ?_ h
  simp only [aeq, ht, ba_beq]

theorem aeqs_bool {P : Program} {d : Nat} {off ft : Nat} {fs : List Fld} {xs ys : List AVal} {a b : Bool} {n m : Nat} {z : AVal} {r : Bool} (ht : tab P ft = some ⟨.bool, n, m, z⟩) (hx : xs[off]? = some (.bool a)) (hy : ys[off]? = some (.bool b))
    (h : aeqs (aeq P (d + 1)) fs xs ys = some r) : aeqs (aeq P (d + 1)) (⟨off, 1, false, ft, false⟩ :: fs) xs ys = some (decide (a = b) && r) := by
  refine aeqs_cons hx hy ?_ h
  have e : (a == b) = decide (a = b) := by cases a <;> cases b <;> rfl
  simp only [aeq, ht, e]

/-! ### Side conditions -/

section
variable {fl : Bool} {P : Program} {n0 : Nat} {all : Array Oper} {K : St → Prop}

theorem gT {tm : List AVal} {o : Oper} {b : Option Bool} (h : guardA all tm o = b := by first | exact guardA_none rfl | exact guardA_yes rfl rfl rfl (by with_reducible rfl)) : guardA all tm o = b := h
theorem gF {tm : List AVal} {o : Oper} {b : Option Bool} (h : guardA all tm o = b := by first | exact guardA_gone rfl rfl rfl | exact guardA_noT rfl rfl rfl (by with_reducible rfl) | exact guardA_noF rfl rfl rfl (by with_reducible rfl)) : guardA all tm o = b := h
theorem pT {tm tm' : List AVal} {d : Option Tmp} {y : AVal} (h : putT tm d y = tm' := by (dsimp only [putT, List.set_cons_succ, List.set_cons_zero] <;> exact rfl)) : putT tm d y = tm' := h
theorem sT {tm tm' : List AVal} {d : Nat} {y : AVal} (h : tm.set d y = tm' := by (dsimp only [List.set_cons_succ, List.set_cons_zero] <;> exact rfl)) : tm.set d y = tm' := h
theorem nT {a b c : Nat} (h : a + b = c := by first | (simp only [Nat.reduceAdd]; exact rfl) | exact rfl) : a + b = c := h
theorem tT {tm : List AVal} {o : Oper} {nx : Nat} (h : ∀ j, j ∈ touched tm o → j < nx := by first | exact touched_nil rfl | exact touched_one rfl (by omega)) : ∀ j, j ∈ touched tm o → j < nx := h
theorem iT {n n0 M m : Nat} {Pr : List Nat} {tc : List (Bool × List Nat)} (h : indepB n n0 Pr tc = true) : indepB n n0 Pr tc = true := h

end

/-! ### Loops over a tuple of variables -/

/-- Some slots are laid anew. -/
def msk : List (Option AVal) → List AVal → List AVal
  | none :: ms, x :: xs => x :: msk ms xs
  | some y :: ms, _ :: xs => y :: msk ms xs
  | _, xs => xs

theorem msk_none (ms : List (Option AVal)) (x : AVal) (xs : List AVal) : msk (none :: ms) (x :: xs) = x :: msk ms xs := rfl
theorem msk_some (y : AVal) (ms : List (Option AVal)) (x : AVal) (xs : List AVal) : msk (some y :: ms) (x :: xs) = y :: msk ms xs := rfl
theorem msk_nil (xs : List AVal) : msk [] xs = xs := by cases xs <;> rfl

section
variable {fl : Bool} {P : Program} {n0 : Nat} {Q : Exit → St → Prop} {k : List It}

/-- A loop with some variables, a bound on its rounds, and what holds of the variables at each round's beginning; 'F' is the state. -/
theorem W_fold {α : Type} {c : Code} {s : St} (I : α → Prop) (M : α → Nat) (F : α → St) (a0 : α) (h0 : I a0) (hd : Weak n0 s (F a0))
    (round : ∀ a, I a → AWP P n0 c (unw P n0 [] (thenQ (fun s' => ∃ a', M a' < M a ∧ I a' ∧ Weak n0 s' (F a')) (unw P n0 k Q))) (F a)) : AWP P n0 (.loop c) (unw P n0 k Q) s := by
  refine W_loop (fun m s => ∃ a, I a ∧ m = M a ∧ s = F a) (M a0) (F a0) ⟨a0, h0, rfl, rfl⟩ hd ?_
  rintro m s1 ⟨a, hI, rfl, rfl⟩
  intro ext β a1 w i
  refine wp_mono (round a hI ext β a1 w i) ?_
  rintro e a2 w2 ⟨β2, s2, q, i2, g2⟩
  cases e with
  | normal =>
    obtain ⟨a', h1, h2, h3⟩ := q
    exact ⟨β2, s2, ⟨M a', h1, F a', ⟨a', h2, rfl, rfl⟩, h3⟩, i2, g2⟩
  | exit j => exact ⟨β2, s2, q, i2, g2⟩
  | goto l => exact ⟨β2, s2, q, i2, g2⟩
  | ret => exact ⟨β2, s2, q, i2, g2⟩
  | panic ch => exact ⟨β2, s2, q, i2, g2⟩
  | outgrown => exact ⟨β2, s2, q, i2, g2⟩

/-- As W_fold, with the state laid over the one at hand. -/
theorem W_foldM {α : Type} {c : Code} {tm : List AVal} {hp : Heap} {nx : Nat} (mask : α → List (Option AVal)) (H : α → Heap) (I : α → Prop) (M : α → Nat) (a0 : α) (h0 : I a0) (hd : Weak n0 ⟨tm, hp, nx⟩ ⟨msk (mask a0) tm, H a0, nx⟩)
    (round : ∀ a, I a → AWP P n0 c (unw P n0 [] (thenQ (fun s' => ∃ a', M a' < M a ∧ I a' ∧ Weak n0 s' ⟨msk (mask a') tm, H a', nx⟩) (unw P n0 k Q))) ⟨msk (mask a) tm, H a, nx⟩) : AWP P n0 (.loop c) (unw P n0 k Q) ⟨tm, hp, nx⟩ :=
  W_fold I M (fun a => ⟨msk (mask a) tm, H a, nx⟩) a0 h0 hd round

/-- As W_foldM; the heap stays. -/
theorem W_foldK {α : Type} {c : Code} {tm : List AVal} {hp : Heap} {nx : Nat} (mask : α → List (Option AVal)) (I : α → Prop) (M : α → Nat) (a0 : α) (h0 : I a0) (hd : Weak n0 ⟨tm, hp, nx⟩ ⟨msk (mask a0) tm, hp, nx⟩)
    (round : ∀ a, I a → AWP P n0 c (unw P n0 [] (thenQ (fun s' => ∃ a', M a' < M a ∧ I a' ∧ Weak n0 s' ⟨msk (mask a') tm, hp, nx⟩) (unw P n0 k Q))) ⟨msk (mask a) tm, hp, nx⟩) : AWP P n0 (.loop c) (unw P n0 k Q) ⟨tm, hp, nx⟩ :=
  W_fold I M (fun a => ⟨msk (mask a) tm, hp, nx⟩) a0 h0 hd round

/-- As W_foldM, with one way on behind the loop: 'J'. -/
theorem W_foldJ {α γ : Type} {c : Code} {tm : List AVal} {hp : Heap} {nx : Nat} {id : Nat} (mask : α → List (Option AVal)) (H : α → Heap) (I : α → Prop) (M : α → Nat) (maskJ : γ → List (Option AVal)) (HJ : γ → Heap) (J : γ → Prop) (a0 : α) (h0 : I a0) (hd : Weak n0 ⟨tm, hp, nx⟩ ⟨msk (mask a0) tm, H a0, nx⟩)
    (after : ∀ g, J g → unw P n0 k Q .normal ⟨msk (maskJ g) tm, HJ g, nx⟩)
    (round : ∀ a, I a → AWP P n0 c (unw P n0 [] (thenQ (fun s' => ∃ a', M a' < M a ∧ I a' ∧ Weak n0 s' ⟨msk (mask a') tm, H a', nx⟩) (forW n0 id (fun s => ∃ g, J g ∧ s = ⟨msk (maskJ g) tm, HJ g, nx⟩) (unw P n0 k Q)))) ⟨msk (mask a) tm, H a, nx⟩) :
    AWP P n0 (.loop c) (unw P n0 (.blk id :: k) Q) ⟨tm, hp, nx⟩ := by
  refine W_forW (fun m s => ∃ a, I a ∧ m = M a ∧ s = ⟨msk (mask a) tm, H a, nx⟩) (fun s => ∃ g, J g ∧ s = ⟨msk (maskJ g) tm, HJ g, nx⟩) (M a0) ⟨msk (mask a0) tm, H a0, nx⟩ ⟨a0, h0, rfl, rfl⟩ hd ?_ ?_
  · rintro s ⟨g, hg, rfl⟩
    exact after g hg
  · rintro m s1 ⟨a, hI, rfl, rfl⟩
    intro ext β a1 w i
    refine wp_mono (round a hI ext β a1 w i) ?_
    rintro e a2 w2 ⟨β2, s2, q, i2, g2⟩
    cases e with
    | normal =>
      obtain ⟨a', h1, h2, h3⟩ := q
      exact ⟨β2, s2, ⟨M a', h1, ⟨msk (mask a') tm, H a', nx⟩, ⟨a', h2, rfl, rfl⟩, h3⟩, i2, g2⟩
    | exit j => exact ⟨β2, s2, q, i2, g2⟩
    | goto l => exact ⟨β2, s2, q, i2, g2⟩
    | ret => exact ⟨β2, s2, q, i2, g2⟩
    | panic ch => exact ⟨β2, s2, q, i2, g2⟩
    | outgrown => exact ⟨β2, s2, q, i2, g2⟩

theorem FJ_exit {γ : Type} {F : St → Prop} {id : Nat} {G : γ → St} {J : γ → Prop} {R : Exit → St → Prop} {s : St} (g : γ) (h : J g) (hw : Weak n0 s (G g)) : unw P n0 [] (thenQ F (forW n0 id (fun s => ∃ g, J g ∧ s = G g) R)) (.exit id) s :=
  FW_exit ⟨_, ⟨g, h, rfl⟩, hw⟩

/-! ### Lists that begin as nil -/

/-- Each slot stays, or is given up, or a list of nothing at all becomes one of an object that is not there yet. -/
def NewL (j : Nat) : List AVal → List AVal → Prop
  | [], [] => True
  | x :: xs, y :: ys => (y = x ∨ y = .junk ∨ (x = .sl [] (some 0) ∧ y = .ref j 0 0 0 false 0)) ∧ NewL j xs ys
  | _, _ => False

theorem NewL.get {j : Nat} : ∀ {xs ys : List AVal}, NewL j xs ys → ys.length = xs.length ∧ ∀ (k : Nat) x y, xs[k]? = some x → ys[k]? = some y → y = x ∨ y = .junk ∨ (x = .sl [] (some 0) ∧ y = .ref j 0 0 0 false 0)
  | [], [], _ => ⟨rfl, fun k x y hx => by simp at hx⟩
  | x :: xs, y :: ys, f => by
    obtain ⟨h1, h2⟩ := NewL.get f.2
    refine ⟨by simp [h1], fun k a b ha hb => ?_⟩
    cases k with
    | zero => simp at ha hb; subst ha; subst hb; exact f.1
    | succ k => exact h2 k a b (by simpa using ha) (by simpa using hb)
  | [], _ :: _, f => f.elim
  | _ :: _, [], f => f.elim

theorem NewL.nil {j : Nat} : NewL j [] [] := trivial
theorem NewL.keep {j : Nat} {x : AVal} {xs ys : List AVal} (f : NewL j xs ys) : NewL j (x :: xs) (x :: ys) := ⟨.inl rfl, f⟩
theorem NewL.new {j : Nat} {xs ys : List AVal} (f : NewL j xs ys) : NewL j (.sl [] (some 0) :: xs) (.ref j 0 0 0 false 0 :: ys) := ⟨.inr (.inr ⟨rfl, rfl⟩), f⟩

theorem W_unborn {c : Code} {tm tm' : List AVal} {hp : Heap} {nx : Nat} (esz : Nat) (hf : NewL nx tm tm') (h : AWP P n0 c (unw P n0 k Q) ⟨tm', (nx, .arr esz []) :: hp, nx + 1⟩) : AWP P n0 c (unw P n0 k Q) ⟨tm, hp, nx⟩ := by
  intro ext β a w i
  obtain ⟨hl, hg⟩ := hf.get
  obtain ⟨h1, h2, h3⟩ := i.heap.unborn (fresh := nx) (fun h => Nat.lt_irrefl _ h) esz
  have hlow : n0 ≤ nx := by
    rcases Nat.lt_or_ge nx n0 with h8 | h8
    · exact absurd (i.low nx h8) (Nat.lt_irrefl _)
    · exact h8
  have hq : ∀ j, (Lt nx j ∨ j = nx) → Lt (nx + 1) j := fun j hj => by simp only [Lt] at *; omega
  have i2 : SIn n0 ext (fun j => if j = nx then none else β j) ⟨tm', (nx, .arr esz []) :: hp, nx + 1⟩ a w := by
    refine ⟨HIn.mono hq h1, by rw [i.size]; exact hl.symm, fun k y v hy hv => ?_, fun y hy => ?_, i.defers, fun j hj => hq j (.inl (i.low j hj))⟩
    · have hk : k < tm.length := by rw [← hl]; exact (List.getElem?_eq_some_iff.1 hy).1
      rcases hg k tm[k] y (List.getElem?_eq_getElem hk) hy with rfl | rfl | ⟨e1, rfl⟩
      · exact (i.rel k _ v (List.getElem?_eq_getElem hk) hv).step h3 (i.nm _ (List.getElem_mem hk))
      · exact .junk v
      · have hv1 := i.rel k _ v (List.getElem?_eq_getElem hk) hv
        rw [e1] at hv1
        cases hv1 with | sl _ _ a1 cap esz1 blk off vals hcap hlim _ _ _ _ =>
        have hc := hlim 0 rfl
        subst hc
        refine .ref nx 0 0 0 false 0 a1 0 (Nat.le_refl _) (Nat.le_refl _) (fun h => by cases h) fun esz2 rows2 hr => ?_
        exact ⟨Nat.zero_le _, fun _ => ⟨Nat.le_refl _, .inl rfl⟩⟩
    · obtain ⟨k, hk⟩ := List.getElem?_of_mem hy
      have hk' : k < tm.length := by rw [← hl]; exact (List.getElem?_eq_some_iff.1 hk).1
      rcases hg k tm[k] y (List.getElem?_eq_getElem hk') hk with rfl | rfl | ⟨e1, rfl⟩
      · exact Nm.mono (fun j hj => hq j (.inl hj)) (i.nm _ (List.getElem_mem hk'))
      · exact .junk
      · exact .ref _ _ _ _ _ _ (Nat.lt_succ_self nx)
  have g : Goes n0 ext β hp w (fun j => if j = nx then none else β j) ((nx, .arr esz []) :: hp) w := ⟨h2, h3.weaken fun j hj => Nat.lt_of_lt_of_le hj hlow⟩
  exact wp_mono (h ext _ a w i2) fun _ _ _ p => p.after g

theorem NewL.all {j : Nat} : ∀ xs : List AVal, NewL j xs xs
  | [] => trivial
  | x :: xs => ⟨.inl rfl, NewL.all xs⟩

theorem NewL.at {j : Nat} : ∀ (xs : List AVal) (t : Nat), xs[t]? = some (.sl [] (some 0)) → NewL j xs (xs.set t (.ref j 0 0 0 false 0))
  | [], t, h => by simp at h
  | x :: xs, 0, h => by
    simp at h
    subst h
    exact ⟨.inr (.inr ⟨rfl, rfl⟩), NewL.all xs⟩
  | x :: xs, t + 1, h => ⟨.inl rfl, NewL.at xs t (by simpa using h)⟩

/-- The list in one slot is nothing at all: it becomes one of an object that is not there yet. -/
theorem W_unbornAt {c : Code} {tm tm' : List AVal} {hp : Heap} {nx nx' : Nat} (t esz : Nat) (ht : tm[t]? = some (.sl [] (some 0))) (e : tm.set t (.ref nx 0 0 0 false 0) = tm') (hn : nx + 1 = nx') (h : AWP P n0 c (unw P n0 k Q) ⟨tm', (nx, .arr esz []) :: hp, nx'⟩) : AWP P n0 c (unw P n0 k Q) ⟨tm, hp, nx⟩ := by
  subst e
  subst hn
  exact W_unborn esz (NewL.at tm t ht) h

/-- A loop that makes one object longer. -/
theorem W_foldA {α : Type} {c : Code} {tm : List AVal} {hp : Heap} {nx id esz : Nat} {xs : List (List AVal)} (mask : Nat → α → List (Option AVal)) (R : α → List (List AVal)) (I : α → Prop) (M : α → Nat) (a0 : α) (h0 : I a0)
    (hd : Weak n0 ⟨tm, (id, .arr esz xs) :: hp, nx⟩ ⟨msk (mask id a0) tm, (id, .arr esz (R a0)) :: hp, nx⟩)
    (round : ∀ a, I a → AWP P n0 c (unw P n0 [] (thenQ (fun s' => ∃ a', M a' < M a ∧ I a' ∧ Weak n0 s' ⟨msk (mask id a') tm, (id, .arr esz (R a')) :: hp, nx⟩) (unw P n0 k Q))) ⟨msk (mask id a) tm, (id, .arr esz (R a)) :: hp, nx⟩) : AWP P n0 (.loop c) (unw P n0 k Q) ⟨tm, (id, .arr esz xs) :: hp, nx⟩ :=
  W_fold I M (fun a => ⟨msk (mask id a) tm, (id, .arr esz (R a)) :: hp, nx⟩) a0 h0 hd round

/-! ### Slots whose values are known otherwise -/

/-- Slots are given up, or what they name stands as it is from now on, or the spare room of a slice is forgotten. -/
theorem FzL.forget {h h2 : Heap} {rows : List (List AVal)} {lim : Option Nat} {xs ys : List AVal} (hz : Fz (.sl rows none)) (f : FzL h h2 xs ys) : FzL h h2 (.sl rows lim :: xs) (.sl rows none :: ys) := by
  refine ⟨.inr (.inr ⟨.sl rows rows lim rfl (fun i r r' h1 h2 => ?_) (fun i r r' j x x' h1 h2 h3 h4 => ?_), hz⟩), f⟩
  · rw [h1] at h2; injection h2 with h2; rw [h2]
  · rw [h1] at h2; injection h2 with h2; subst h2
    rw [h3] at h4; injection h4 with h4; subst h4
    exact .refl _

theorem FrzL.forget {h h2 : Heap} {rows : List (List AVal)} {lim : Option Nat} {xs ys : List AVal} (f : FrzL h h2 xs ys) : FrzL h h2 (.sl rows lim :: xs) (.sl rows none :: ys) := by
  refine ⟨.sl rows rows lim rfl (fun i r r' h1 h2 => ?_) (fun i r r' j x x' h1 h2 h3 h4 => ?_), f⟩
  · rw [h1] at h2; injection h2 with h2; rw [h2]
  · rw [h1] at h2; injection h2 with h2; subst h2
    rw [h3] at h4; injection h4 with h4; subst h4
    exact .refl _

theorem FrzL.ofFrz {h h2 : Heap} {x y : AVal} {xs ys : List AVal} (hx : Frz h (fun id => lk h2 id = none) x y) (f : FrzL h h2 xs ys) : FrzL h h2 (x :: xs) (y :: ys) := ⟨hx, f⟩

end

theorem Frz.nowhere {S : Nat → Prop} {x y : AVal} (f : Frz [] S x y) : Frz [] (· ∈ ([] : List Nat)) x y := by
  induction f with
  | refl x => exact .refl x
  | ref id sz base len ex c esz rows rows' lim hS hk hsz hlen hlim hrow hrel ih => simp [lk] at hk
  | ptr id sz row col esz rows r cells hS hk hsz hr hlen hrel ih => simp [lk] at hk
  | agg xs ys hlen hrel ih => exact .agg xs ys hlen ih
  | tuple xs ys hlen hrel ih => exact .tuple xs ys hlen ih
  | func fn xs ys us vs hlen hlen' hrel hrel' ih ih' => exact .func fn xs ys us vs hlen hlen' ih ih'
  | iface t x y hrel ih => exact .iface t x y ih
  | sl rows rows' lim hlen hrow hrel ih => exact .sl rows rows' lim hlen hrow ih

/-- The kept cells of what a function value captured. -/
theorem FrzL.fn1 {h h2 : Heap} {fn : Fn} {id esz : Nat} {cs : List AVal} {xs ys : List AVal} (hl : lk h id = some (.arr esz [cs])) (hS : lk h2 id = none) (f : FrzL h h2 xs ys) :
    FrzL h h2 (.func fn [] [.ptr id 1 0 0] :: xs) (.func fn [] [.fp cs] :: ys) := by
  refine .ofFrz (.func fn [] [] _ _ rfl rfl (fun i x y hx => by simp at hx) fun i x y hx hy => ?_) f
  cases i with
  | zero =>
    simp at hx hy
    subst hx
    subst hy
    refine .ptr id 1 0 0 esz [cs] cs cs hS hl rfl rfl (by simp) fun j x x' h1 h2 => ?_
    rw [Nat.zero_add] at h1
    rw [h1] at h2; injection h2 with h2; subst h2
    exact .refl _
  | succ i => simp at hx

/-! ### Freezing, cell by cell -/

inductive FrC (h : Heap) (S : Nat → Prop) : List AVal → List AVal → Prop
  | nil : FrC h S [] []
  | cons {x y : AVal} {xs ys : List AVal} (h1 : Frz h S x y) (h2 : FrC h S xs ys) : FrC h S (x :: xs) (y :: ys)

theorem FrC.len {h : Heap} {S : Nat → Prop} {xs ys : List AVal} (f : FrC h S xs ys) : ys.length = xs.length := by
  induction f with
  | nil => rfl
  | cons _ _ ih => simp [ih]

theorem FrC.get {h : Heap} {S : Nat → Prop} {xs ys : List AVal} (f : FrC h S xs ys) : ∀ (k : Nat) x y, xs[k]? = some x → ys[k]? = some y → Frz h S x y := by
  induction f with
  | nil => intro k x y hx; simp at hx
  | cons h1 _ ih =>
    intro k x y hx hy
    cases k with
    | zero => simp at hx hy; subst hx; subst hy; exact h1
    | succ k => exact ih k x y (by simpa using hx) (by simpa using hy)

theorem FrC.refl {h : Heap} {S : Nat → Prop} : ∀ xs : List AVal, FrC h S xs xs
  | [] => .nil
  | x :: xs => .cons (.refl x) (FrC.refl xs)

theorem FrC.append {h : Heap} {S : Nat → Prop} {xs ys us vs : List AVal} (f : FrC h S xs ys) (g : FrC h S us vs) : FrC h S (xs ++ us) (ys ++ vs) := by
  induction f with
  | nil => exact g
  | cons h1 _ ih => exact .cons h1 ih

theorem Frz.aggC {h : Heap} {S : Nat → Prop} {xs ys : List AVal} (f : FrC h S xs ys) : Frz h S (.agg xs) (.agg ys) := .agg xs ys f.len f.get
theorem Frz.tupleC {h : Heap} {S : Nat → Prop} {xs ys : List AVal} (f : FrC h S xs ys) : Frz h S (.tuple xs) (.tuple ys) := .tuple xs ys f.len f.get

/-- Rows, row by row. -/
inductive FrR (h : Heap) (S : Nat → Prop) : List (List AVal) → List (List AVal) → Prop
  | nil : FrR h S [] []
  | cons {x y : List AVal} {xs ys : List (List AVal)} (h1 : FrC h S x y) (h2 : FrR h S xs ys) : FrR h S (x :: xs) (y :: ys)

theorem FrR.len {h : Heap} {S : Nat → Prop} {xs ys : List (List AVal)} (f : FrR h S xs ys) : ys.length = xs.length := by
  induction f with
  | nil => rfl
  | cons _ _ ih => simp [ih]

theorem FrR.get {h : Heap} {S : Nat → Prop} {xs ys : List (List AVal)} (f : FrR h S xs ys) : ∀ (k : Nat) x y, xs[k]? = some x → ys[k]? = some y → FrC h S x y := by
  induction f with
  | nil => intro k x y hx; simp at hx
  | cons h1 _ ih =>
    intro k x y hx hy
    cases k with
    | zero => simp at hx hy; subst hx; subst hy; exact h1
    | succ k => exact ih k x y (by simpa using hx) (by simpa using hy)

theorem Frz.slR {h : Heap} {S : Nat → Prop} {xs ys : List (List AVal)} {lim : Option Nat} (f : FrR h S xs ys) : Frz h S (.sl xs lim) (.sl ys Option.none) :=
  .sl xs ys lim f.len (fun i r r' h1 h2 => (f.get i r r' h1 h2).len) (fun i r r' j x x' h1 h2 => (f.get i r r' h1 h2).get j x x')

/-- A whole object's rows. -/
theorem Frz.refR {h : Heap} {S : Nat → Prop} {id n esz c : Nat} {ex : Bool} {xs ys : List (List AVal)} (hS : S id) (hl : lk h id = some (.arr esz xs)) (hn : xs.length = n) (f : FrR h S xs ys) : Frz h S (.ref id n 0 n ex c) (.sl ys Option.none) := by
  refine .ref id n 0 n ex c esz xs ys Option.none hS hl hn (by rw [f.len, hn]) (.inl rfl) (fun i r r' h1 h2 => (f.get i r r' ?_ h2).len) (fun i r r' j x x' h1 h2 => (f.get i r r' ?_ h2).get j x x')
  · simpa using h1
  · simpa using h1

theorem Frz.refE {h : Heap} {S : Nat → Prop} {id n esz c : Nat} {ex : Bool} {xs ys : List (List AVal)} (hS : S id) (hl : lk h id = some (.arr esz xs)) (e : xs = ys) (hn : ys.length = n) : Frz h S (.ref id n 0 n ex c) (.sl ys Option.none) := by
  subst e
  have := Frz.ref0 (h := h) (S := S) (id := id) (sz := n) (base := 0) (len := n) (ex := ex) (c := c) hS hl hn (by omega)
  rw [List.drop_zero, List.take_of_length_le (by omega)] at this
  exact this

theorem FrR.refl {h : Heap} {S : Nat → Prop} : ∀ xs : List (List AVal), FrR h S xs xs
  | [] => .nil
  | x :: xs => .cons (.refl x) (FrR.refl xs)

/-! ### What a function hands back -/

theorem retQ_frz {P : Program} {rs : List ResultVar} {Q : AVal → Prop} {s : St} {xs : List AVal} {r : AVal} (h : resAs P s rs = some xs) (hq : Q r) (hz : Fz r) (hf : Frz s.h (fun _ => True) (packA xs) r) : retQ P rs Q .ret s := ⟨xs, r, h, hf, hz, hq⟩
theorem retN_frz {P : Program} {rs : List ResultVar} {Q : AVal → Prop} {s : St} {xs : List AVal} {r : AVal} (h : resAs P s rs = some xs) (hq : Q r) (hz : Fz r) (hf : Frz s.h (fun _ => True) (packA xs) r) : retQ P rs Q .normal s := ⟨xs, r, h, hf, hz, hq⟩

/-! ### Typed rows -/

/-- How a value of a type lies in cells. -/
class Enc (α : Type) where
  enc : α → List AVal
  size : Nat
  len : ∀ x, (enc x).length = size
  fz : ∀ x y, y ∈ enc x → Fz y

def rws {α : Type} [Enc α] (l : List α) : List (List AVal) := l.map Enc.enc

section
variable {α : Type} [Enc α]

theorem rws_length (l : List α) : (rws l).length = l.length := by simp [rws]
theorem rws_nil : rws ([] : List α) = [] := rfl
theorem rws_cons (x : α) (l : List α) : rws (x :: l) = Enc.enc x :: rws l := rfl
theorem rws_get {l : List α} {i : Nat} {x : α} (h : l[i]? = some x) : (rws l)[i]? = some (Enc.enc x) := by simp [rws, h]
theorem rws_append (l m : List α) : rws l ++ rws m = rws (l ++ m) := by simp [rws]
theorem rws_snoc (l : List α) (x : α) : rws l ++ [Enc.enc x] = rws (l ++ [x]) := by simp [rws]
theorem rws_take (l : List α) (n : Nat) : (rws l).take n = rws (l.take n) := by simp [rws]
theorem rws_drop (l : List α) (n : Nat) : (rws l).drop n = rws (l.drop n) := by simp [rws]
theorem rws_set (l : List α) (n : Nat) (x : α) : (rws l).set n (Enc.enc x) = rws (l.set n x) := by simp [rws, List.map_set]
theorem rws_rep (n : Nat) (x : α) : List.replicate n (Enc.enc x) = rws (List.replicate n x) := by simp [rws]
theorem rws_all (l : List α) (k : Nat) : (∀ r, r ∈ rws l → r.length = k) = (Enc.size α = k ∨ l = []) := by
  refine propext ⟨fun h => ?_, fun h r hr => ?_⟩
  · cases l with
    | nil => exact .inr rfl
    | cons x l => exact .inl ((Enc.len x).symm.trans (h _ (by simp [rws])))
  · simp only [rws, List.mem_map] at hr
    obtain ⟨x, hx, rfl⟩ := hr
    rcases h with h | h
    · rw [Enc.len, h]
    · subst h; cases hx
theorem enc_length (x : α) : (Enc.enc x).length = Enc.size α := Enc.len x
theorem rws_mem (l : List α) (r : List AVal) (hr : r ∈ rws l) (x : AVal) (hx : x ∈ r) : Fz x := by
  simp only [rws, List.mem_map] at hr
  obtain ⟨a, _, rfl⟩ := hr
  exact Enc.fz a x hx
theorem rws_fz (l : List α) (lim : Option Nat) : Fz (.sl (rws l) lim) := .sl _ _ (rws_mem l)
theorem rws_fz_iff (l : List α) (lim : Option Nat) : Fz (.sl (rws l) lim) ↔ True := ⟨fun _ => trivial, fun _ => rws_fz l lim⟩
theorem rws_nm_iff (p : Nat → Prop) (l : List α) (lim : Option Nat) : Nm p (.sl (rws l) lim) ↔ True := ⟨fun _ => trivial, fun _ => Fz.nm (rws_fz l lim) p⟩
theorem rws_onm (p : Nat → Prop) (esz : Nat) (l : List α) : (Ob.arr esz (rws l)).nm p ↔ True := ⟨fun _ => trivial, fun _ r hr x hx => Fz.nm (rws_mem l r hr x hx) p⟩
theorem enc_mem_iff (x : α) : (∀ y, y ∈ Enc.enc x → Fz y) ↔ True := ⟨fun _ => trivial, fun _ => Enc.fz x⟩
theorem enc_memN_iff (p : Nat → Prop) (x : α) : (∀ y, y ∈ Enc.enc x → Nm p y) ↔ True := ⟨fun _ => trivial, fun _ y hy => Fz.nm (Enc.fz x y hy) p⟩
theorem rws_mem_iff (p : Nat → Prop) (l : List α) : (∀ r, r ∈ rws l → ∀ x, x ∈ r → Nm p x) ↔ True := ⟨fun _ => trivial, fun _ r hr x hx => Fz.nm (rws_mem l r hr x hx) p⟩
theorem enc_fz_agg (x : α) : Fz (.agg (Enc.enc x)) := .agg _ (Enc.fz x)
theorem enc_fz_iff (x : α) : Fz (.agg (Enc.enc x)) ↔ True := ⟨fun _ => trivial, fun _ => enc_fz_agg x⟩
theorem enc_nm_iff (p : Nat → Prop) (x : α) : Nm p (.agg (Enc.enc x)) ↔ True := ⟨fun _ => trivial, fun _ => Fz.nm (enc_fz_agg x) p⟩
theorem enc_fp_iff (p : Nat → Prop) (x : α) : Nm p (.fp (Enc.enc x)) ↔ True := ⟨fun _ => trivial, fun _ => .fp _ fun y hy => Fz.nm (Enc.fz x y hy) p⟩

end

instance : Enc Int := ⟨fun n => [.int .i64 n], 1, fun _ => rfl, fun _ _ h => by simp at h; subst h; exact .int _ _⟩
instance : Enc ByteArray := ⟨fun n => [.str n], 1, fun _ => rfl, fun _ _ h => by simp at h; subst h; exact .str _⟩
instance : Enc Bool := ⟨fun n => [.bool n], 1, fun _ => rfl, fun _ _ h => by simp at h; subst h; exact .bool _⟩
instance {α : Type} [Enc α] : Enc (List α) := ⟨fun l => [.sl (rws l) none], 1, fun _ => rfl, fun l _ h => by simp at h; subst h; exact rws_fz l none⟩

theorem enc_int (n : Int) : Enc.enc n = [.int .i64 n] := rfl
theorem enc_str (n : ByteArray) : Enc.enc n = [.str n] := rfl
theorem enc_bool (n : Bool) : Enc.enc n = [.bool n] := rfl
theorem enc_list {α : Type} [Enc α] (l : List α) : Enc.enc l = [.sl (rws l) none] := rfl
theorem size_int : Enc.size Int = 1 := rfl
theorem size_str : Enc.size ByteArray = 1 := rfl
theorem size_bool : Enc.size Bool = 1 := rfl
theorem size_list {α : Type} [Enc α] : Enc.size (List α) = 1 := rfl

theorem rws_snocT {α : Type} [Enc α] {l : List α} {i : Nat} {x : α} (h : l[i]? = some x) : rws (l.take i) ++ [Enc.enc x] = rws (l.take (i + 1)) := by
  rw [rws_snoc]
  congr 1
  rw [List.take_add_one, h]
  rfl

/-- The object at the heap's head is written no more. -/
theorem W_freezeHd {P : Program} {n0 : Nat} {Q : Exit → St → Prop} {k : List It} {c : Code} {tm tm' : List AVal} {hp : Heap} {nx id esz : Nat} {xs : List (List AVal)} (hlk : lk hp id = none) (hf : FzL ((id, .arr esz xs) :: hp) hp tm tm') (h : AWP P n0 c (unw P n0 k Q) ⟨tm', hp, nx⟩) :
    AWP P n0 c (unw P n0 k Q) ⟨tm, (id, .arr esz xs) :: hp, nx⟩ := W_freeze (fun j ob e => by
      simp only [lk]
      split
      · rename_i hi; subst hi; rw [hlk] at e; cases e
      · exact e) hf h

theorem FzL.wholeT {α : Type} [Enc α] {hp : Heap} {id n c esz : Nat} {ex : Bool} {r : List (List AVal)} {xs ys : List AVal} (l : List α) (e : r = rws l) (hn : l.length = n) (hlk : lk hp id = none) (f : FzL ((id, .arr esz r) :: hp) hp xs ys) :
    FzL ((id, .arr esz r) :: hp) hp (.ref id n 0 n ex c :: xs) (.sl (rws l) none :: ys) := by
  subst e
  exact FzL.whole (lk_head _ _ _) hlk (by rw [rws_length, hn]) (rws_fz l none) f

theorem nm_tuple (p : Nat → Prop) (xs : List AVal) : Nm p (.tuple xs) ↔ ∀ x, x ∈ xs → Nm p x := ⟨fun h => by cases h with | tuple _ h => exact h, fun h => .tuple _ h⟩
theorem nm_fp (p : Nat → Prop) (xs : List AVal) : Nm p (.fp xs) ↔ ∀ x, x ∈ xs → Nm p x := ⟨fun h => by cases h with | fp _ h => exact h, fun h => .fp _ h⟩
theorem nm_func (p : Nat → Prop) (fn : Fn) (xs ys : List AVal) : Nm p (.func fn xs ys) ↔ (∀ x, x ∈ xs → Nm p x) ∧ (∀ x, x ∈ ys → Nm p x) := ⟨fun h => by cases h with | func _ _ _ h h' => exact ⟨h, h'⟩, fun h => .func _ _ _ h.1 h.2⟩
theorem nm_nilp (p : Nat → Prop) : Nm p .nilp ↔ True := ⟨fun _ => trivial, fun _ => .nilp⟩
theorem nm_nilFunc (p : Nat → Prop) : Nm p .nilFunc ↔ True := ⟨fun _ => trivial, fun _ => .nilFunc⟩
theorem nm_nilIface (p : Nat → Prop) : Nm p .nilIface ↔ True := ⟨fun _ => trivial, fun _ => .nilIface⟩

/-! ### Rules that gen3 uses -/

section
variable {fl : Bool} {P : Program} {n0 : Nat} {all : Array Oper} {K : St → Prop} {Q : Exit → St → Prop} {k : List It}

/-- A condition that is known. -/
theorem W_condT {tm : List AVal} {hp : Heap} {nx : Nat} {t : Tmp} {x y : Code} {b : Bool} (hb : tm[t]? = some (.bool b)) (hw : b = true)
    (h : AWP P n0 x (unw P n0 k Q) ⟨tm, hp, nx⟩) : AWP P n0 (.cond (.tmp t) x y) (unw P n0 k Q) ⟨tm, hp, nx⟩ := by
  refine W_cond (b := b) ?_ (fun e => h) (fun e => by rw [hw] at e; cases e)
  simp only [ev, List.getD_eq_getElem?_getD, hb, Option.getD_some]

theorem W_condF {tm : List AVal} {hp : Heap} {nx : Nat} {t : Tmp} {x y : Code} {b : Bool} (hb : tm[t]? = some (.bool b)) (hw : b = false)
    (h : AWP P n0 y (unw P n0 k Q) ⟨tm, hp, nx⟩) : AWP P n0 (.cond (.tmp t) x y) (unw P n0 k Q) ⟨tm, hp, nx⟩ := by
  refine W_cond (b := b) ?_ (fun e => by rw [hw] at e; cases e) (fun e => h)
  simp only [ev, List.getD_eq_getElem?_getD, hb, Option.getD_some]

/-- A call; of its arguments' slices the spare room is forgotten. -/
theorem AO_callUE {o : Oper} {rest : List Oper} {i nx nx' : Nat} {tm tm' : List AVal} {hp : Heap} {c : Call} {g : FuncId} {args args' : List AVal} {r : AVal} (hg : guardA all tm o = some true) (ho : o.op = .call c) (ht : target tm c = some (g, args))
    (hc : PCall P g args' (· = r)) (hf : FrzL [] [] args args') (htm : putT tm o.dst r = tm') (hn : nx + 1 = nx') (h : AO P n0 all rest (i + 1) K ⟨tm', hp, nx'⟩) : AO P n0 all (o :: rest) i K ⟨tm, hp, nx⟩ := by
  subst htm
  subst hn
  refine AO_call hg ho ht hc hf.get.1 (fun _ _ h => h) (fun k x y hx hy => ?_) ?_
  · exact (Frz.widen (fun _ h => h.elim) (Frz.none ((hf.get.2 k x y hx hy).nowhere) hp))
  · rintro r' rfl
    exact h

theorem D_callUE {nx : Nat} {o : Oper} {rest : List Oper} {i i' : Nat} {tm tm' : List AVal} {hp : Heap} {tc tc' : List (Bool × List Nat)} {c : Call} {g : FuncId} {args args' : List AVal} {r : AVal} (hg : guardA all tm o = some true) (ho : o.op = .call c) (ht : target tm c = some (g, args))
    (hc : PCall P g args' (· = r)) (hf : FrzL [] [] args args') (htm : putT tm o.dst r = tm') (hn : i + 1 = i') (htc : tc ++ [(false, [])] = tc') (h : DW fl P all nx K rest i' tm' hp tc') : DW fl P all nx K (o :: rest) i tm hp tc := by
  subst htm
  subst hn
  subst htc
  refine D_call c g args args' r [] hg ho ht hc hf.get.1 (fun k x y hx hy => ?_) (.inr rfl) h
  exact Frz.widen (fun _ h => h.elim) (Frz.none ((hf.get.2 k x y hx hy).nowhere) hp)

end

theorem wkD {xs ys : List AVal} (h : dropL xs ys := by simp [dropL, msk]) : dropL xs ys := h
theorem wkDT {xs ys : List AVal} (h : dropL xs ys := by first | (simp [dropL, msk]; done) | fail) : dropL xs ys := h
theorem sub_keepE {i : Nat} {ob ob' : Ob} {h h' : Heap} (e : ob' = ob) (hh : ∀ id o, lk h' id = some o → lk h id = some o) : ∀ id o, lk ((i, ob') :: h') id = some o → lk ((i, ob) :: h) id = some o := by
  subst e
  exact sub_keep hh
theorem wkH {h h' : Heap} (e : ∀ id o, lk h' id = some o → lk h id = some o := by (repeat first | exact lk_same _ | apply sub_keep | (refine sub_drop ?_ rfl) | (apply sub_keepE; (case e => first | (simp; done) | (simp [rws]; done))))) : ∀ id o, lk h' id = some o → lk h id = some o := e
theorem wkN {n : Nat} {xs : List AVal} (h : nmL n xs := by simp [nmL, msk, nm_junk, nm_int, nm_bool, nm_str, nm_ref, nm_ptr, nm_ri, nm_nil, nm_agg, nm_tuple, nm_fp, nm_func, nm_nilp, nm_nilFunc, nm_nilIface, nm_mapv, mpe_onm, rws_nm_iff, enc_nm_iff, enc_memN_iff, enc_fp_iff]) : nmL n xs := h
theorem wkNT {n : Nat} {xs : List AVal} (h : nmL n xs := by first | (simp [nmL, msk, nm_junk, nm_int, nm_bool, nm_str, nm_ref, nm_ptr, nm_ri, nm_nil, nm_agg, nm_tuple, nm_fp, nm_func, nm_nilp, nm_nilFunc, nm_nilIface, nm_mapv, mpe_onm, rws_nm_iff, enc_nm_iff, enc_memN_iff, enc_fp_iff]; done) | fail) : nmL n xs := h
theorem wkM {n : Nat} {h : Heap} (e : nmH n h := by simp [nmH, rws_onm, rws_mem_iff, nm_ori, nm_oarr, nm_junk, nm_int, nm_bool, nm_str, nm_ref, nm_ptr, nm_ri, nm_nil, nm_agg, nm_tuple, nm_fp, nm_func, nm_nilp, nm_nilFunc, nm_nilIface, nm_mapv, mpe_onm, rws_nm_iff, enc_nm_iff, enc_memN_iff, enc_fp_iff]) : nmH n h := e
theorem wkMT {n : Nat} {h : Heap} (e : nmH n h := by first | (simp [nmH, rws_onm, rws_mem_iff, nm_ori, nm_oarr, nm_junk, nm_int, nm_bool, nm_str, nm_ref, nm_ptr, nm_ri, nm_nil, nm_agg, nm_tuple, nm_fp, nm_func, nm_nilp, nm_nilFunc, nm_nilIface, nm_mapv, mpe_onm, rws_nm_iff, enc_nm_iff, enc_memN_iff, enc_fp_iff]; done) | fail) : nmH n h := e
theorem Fz.tuple_iff (l : List AVal) : Fz (.tuple l) ↔ ∀ x, x ∈ l → Fz x := ⟨fun h => by cases h with | tuple _ h => exact h, fun h => .tuple l h⟩
theorem Fz.func_iff (fn : Fn) (l m : List AVal) : Fz (.func fn l m) ↔ (∀ x, x ∈ l → Fz x) ∧ (∀ x, x ∈ m → Fz x) := nm_func _ fn l m
theorem Fz.fp_iff (l : List AVal) : Fz (.fp l) ↔ ∀ x, x ∈ l → Fz x := nm_fp _ l

end Go.AM

namespace Go.AM
open Go
attribute [go_sem] Nat.sub_zero Bool.true_and Bool.and_true Bool.false_and Bool.and_false Bool.true_or Bool.or_true Bool.false_or Bool.or_false List.append_eq ibeq_iff ibeq_niff ibne_iff ibne_niff decide_eq_true_eq decide_eq_false_iff_not Int.not_lt Int.not_le Bool.not_eq_true' Bool.not_eq_false' Bool.not_eq_true Bool.not_eq_false ge_iff_le gt_iff_lt dec_t dec_f ite_t ite_f wrap_i wrap_u ibeq_t ibeq_f ibne_t ibne_f max_l max_r
  rws_length rws_nil rws_all enc_length enc_int enc_str enc_bool enc_list size_int size_str size_bool size_list
attribute [go_sem] reduceCtorEq reduceIte Nat.reduceAdd Nat.reduceSub Nat.reduceMul Nat.reduceLT Nat.reduceLeDiff Nat.reduceEqDiff Nat.reduceBEq Nat.reducePow Int.reduceNeg Int.reduceLT Int.reduceLE Int.reduceEq Int.reduceToNat Int.reducePow Int.reduceMul Int.reduceAdd Int.reduceSub Int.reduceBEq Int.reduceBNe
end Go.AM
end

section
set_option linter.unusedVariables false
namespace Go.AM
open Go

/-- Fields, one behind the other. -/
def StS (P : Program) (m : Nat) : List TypeId → List AVal → Prop
  | [], xs => xs = []
  | t :: ts, xs => ∃ a b, xs = a ++ b ∧ Shp P m t a ∧ StS P m ts b

theorem sts_of {P : Program} {m : Nat} : ∀ {ts : List TypeId} {parts : List (List AVal)}, parts.length = ts.length → (∀ (j : Nat) t ys, ts[j]? = some t → parts[j]? = some ys → Shp P m t ys) → StS P m ts parts.flatten
  | [], [], _, _ => rfl
  | t :: ts, p :: ps, hl, h => ⟨p, ps.flatten, by simp, h 0 t p rfl rfl, sts_of (by simpa using hl) fun j u ys hu hy => h (j + 1) u ys (by simpa using hu) (by simpa using hy)⟩
  | [], _ :: _, hl, _ => by simp at hl
  | _ :: _, [], hl, _ => by simp at hl

abbrev FrC0 (xs ys : List AVal) : Prop := FrC [] (fun _ => False) xs ys

/-- What the cells of a type are, the spare room of slices forgotten. -/
def RdC (P : Program) (t : TypeId) (C : List AVal → Prop) : Prop := ∀ m xs, Shp P m t xs → ∃ ys, FrC0 xs ys ∧ C ys

def RdS (P : Program) (ts : List TypeId) (C : List AVal → Prop) : Prop := ∀ m xs, StS P m ts xs → ∃ ys, FrC0 xs ys ∧ C ys

section
variable {P : Program} {t e : TypeId} {ts : List TypeId}

theorem RdC.mono {C D : List AVal → Prop} (h : RdC P t C) (hd : ∀ ys, C ys → D ys) : RdC P t D := fun m xs hx => let ⟨ys, h1, h2⟩ := h m xs hx; ⟨ys, h1, hd ys h2⟩

theorem rd_nil : RdS P [] (fun ys => ys = []) := fun m xs h => ⟨[], by rw [show xs = [] from h]; exact .nil, rfl⟩

theorem rd_cons {C D : List AVal → Prop} (h1 : RdC P t C) (h2 : RdS P ts D) : RdS P (t :: ts) (fun ys => ∃ a b, ys = a ++ b ∧ C a ∧ D b) := by
  rintro m xs ⟨a, b, rfl, ha, hb⟩
  obtain ⟨a', f1, c1⟩ := h1 m a ha
  obtain ⟨b', f2, c2⟩ := h2 m b hb
  exact ⟨a' ++ b', f1.append f2, a', b', rfl, c1, c2⟩

theorem rd_int {k : IntKind} (ht : P.underlying t = some (.int k)) : RdC P t (fun ys => ∃ n, ys = [.int k n] ∧ (Lit.int k n).wf = true) := fun m xs h => by
  cases m with
  | zero => exact h.elim
  | succ m =>
    simp only [Shp, ht] at h
    obtain ⟨n, rfl, hn⟩ := h
    exact ⟨_, .refl _, n, rfl, hn⟩

theorem rd_i64 (ht : P.underlying t = some (.int .i64)) : RdC P t (fun ys => ∃ n, ys = [.int .i64 n] ∧ -9223372036854775808 ≤ n ∧ n ≤ 9223372036854775807) :=
  (rd_int ht).mono fun _ ⟨n, h1, h2⟩ => ⟨n, h1, (wf_i64 h2).1, by have := (wf_i64 h2).2; omega⟩

theorem rd_u64 (ht : P.underlying t = some (.int .u64)) : RdC P t (fun ys => ∃ n, ys = [.int .u64 n] ∧ 0 ≤ n ∧ n ≤ 18446744073709551615) :=
  (rd_int ht).mono fun _ ⟨n, h1, h2⟩ => ⟨n, h1, (wf_u64 h2).1, by have := (wf_u64 h2).2; omega⟩

theorem rd_bool (ht : P.underlying t = some .bool) : RdC P t (fun ys => ∃ b, ys = [.bool b]) := fun m xs h => by
  cases m with
  | zero => exact h.elim
  | succ m =>
    simp only [Shp, ht] at h
    obtain ⟨n, rfl⟩ := h
    exact ⟨_, .refl _, n, rfl⟩

theorem rd_str (ht : P.underlying t = some .string) : RdC P t (fun ys => ∃ s : ByteArray, ys = [.str s] ∧ s.size ≤ maxLen) := fun m xs h => by
  cases m with
  | zero => exact h.elim
  | succ m =>
    simp only [Shp, ht] at h
    obtain ⟨n, rfl, hn⟩ := h
    exact ⟨_, .refl _, n, rfl, hn⟩

theorem rd_struct {fs : Array Field} {C : List AVal → Prop} (ht : P.underlying t = some (.struct fs)) (h : RdS P (fs.toList.map (·.type)) C) : RdC P t C := fun m xs hx => by
  cases m with
  | zero => exact hx.elim
  | succ m =>
    simp only [Shp, ht] at hx
    obtain ⟨parts, rfl, hl, hp⟩ := hx
    refine h m _ (sts_of (by simpa using hl) fun j u ys hu hy => ?_)
    rw [List.getElem?_map] at hu
    obtain ⟨f, hf, rfl⟩ := Option.map_eq_some_iff.1 hu
    exact hp j f ys hf hy

theorem rd_array {n : Nat} {C : List AVal → Prop} (ht : P.underlying t = some (.array n e)) (h : RdS P (List.replicate n e) C) : RdC P t C := fun m xs hx => by
  cases m with
  | zero => exact hx.elim
  | succ m =>
    simp only [Shp, ht] at hx
    obtain ⟨parts, rfl, hl, hp⟩ := hx
    refine h m _ (sts_of (by simpa using hl) fun j u ys hu hy => ?_)
    rw [List.getElem?_replicate] at hu
    split at hu
    · injection hu with hu
      subst hu
      exact hp ys (List.mem_of_getElem? hy)
    · cases hu

theorem frR_of {α : Type} [Enc α] {wf : α → Prop} : ∀ {rs : List (List AVal)}, (∀ r, r ∈ rs → ∃ ys, FrC0 r ys ∧ ∃ a : α, ys = Enc.enc a ∧ wf a) → ∃ l : List α, FrR [] (fun _ => False) rs (rws l) ∧ ∀ a, a ∈ l → wf a
  | [], _ => ⟨[], .nil, by simp⟩
  | r :: rs, h => by
    obtain ⟨l, h1, h2⟩ := frR_of (rs := rs) (wf := wf) fun r hr => h r (List.mem_cons_of_mem _ hr)
    obtain ⟨ys, h3, a, rfl, h4⟩ := h r (by simp)
    refine ⟨a :: l, .cons h3 h1, fun b hb => ?_⟩
    rcases List.mem_cons.1 hb with rfl | hb
    · exact h4
    · exact h2 b hb

theorem rd_slice {α : Type} [Enc α] {wf : α → Prop} (ht : P.underlying t = some (.slice e)) (hc : (P.cellsOf e == 0) = false) (he : RdC P e (fun ys => ∃ a : α, ys = Enc.enc a ∧ wf a)) :
    RdC P t (fun ys => ∃ l : List α, ys = [.sl (rws l) none] ∧ l.length ≤ maxLen ∧ ∀ a, a ∈ l → wf a) := fun m xs hx => by
  cases m with
  | zero => exact hx.elim
  | succ m =>
    simp only [Shp, ht] at hx
    rcases hx with h | ⟨rs, lim, rfl, h2, h3⟩
    · simp [h] at hc
    · obtain ⟨l, h4, h5⟩ := frR_of (wf := wf) fun r hr => he m r (h3 r hr)
      exact ⟨_, .cons (.slR h4) .nil, l, rfl, by rw [← rws_length, h4.len]; exact h2, h5⟩

end

/-! ### A law's parameters -/

theorem hin0 (w : World) : HIn (fun _ => False) (fun _ => none) (fun _ => True) [] w :=
  ⟨fun id o h => by simp [lk] at h, fun id o h => by simp [lk] at h, fun id id' o o' b h => by simp [lk] at h, fun b h => h.elim⟩

theorem rel0 {w : World} {x y : AVal} {v : Value} (f : Frz [] (fun _ => False) x y) (h : VRel (cx (fun _ => False) (fun _ => none) [] w) x v) : VRel (cx (fun _ => False) (fun _ => none) [] w) y v :=
  Frz.rel (hin0 w) (fun _ h => h.elim) (fun _ _ _ h => h.elim) f v h

variable {P : Program} {w : World} {H : Type} {enc : TypeId × Value → H} {base : Nat} {spare : Nat → Bool} {held : Bool}

theorem arg_agg_rd (hl : laidOutB P = true) {t : TypeId} {cs : Array Value} {d : DataW H} {ps : List MemPlace} {C : List AVal → Prop} (ht : t < P.types.size) (hr : RdC P t C) (h : DataW.Trod enc P w base spare held t (.agg cs) d ps) :
    ∃ xs, VRel (cx (fun _ => False) (fun _ => none) [] w) (.agg xs) (.agg cs) ∧ C xs := by
  obtain ⟨m, xs, h1, h2, h3⟩ := arg_agg hl ht h
  obtain ⟨ys, h4, h5⟩ := hr m xs h3
  exact ⟨ys, rel0 (.aggC h4) h1, h5⟩

theorem arg_slice_rd (hl : laidOutB P = true) {t : TypeId} {a : Option Addr} {len cap : Nat} {d : DataW H} {ps : List MemPlace} {C : List AVal → Prop} (ht : t < P.types.size) (hr : RdC P t C) (h : DataW.Trod enc P w base spare held t (.slice a len cap) d ps) :
    ∃ x, VRel (cx (fun _ => False) (fun _ => none) [] w) x (.slice a len cap) ∧ C [x] := by
  obtain ⟨m, x, h1, h2, h3⟩ := arg_slice hl ht h
  obtain ⟨ys, h4, h5⟩ := hr m [x] h3
  cases h4 with | cons h6 h7 =>
  cases h7 with | nil =>
  exact ⟨_, rel0 h6 h1, h5⟩

end Go.AM
end

section
set_option linter.unusedVariables false
namespace Go.AM
open Go

/-- The list that an object was. -/
def sub0 (id n : Nat) (ys : List (List AVal)) : AVal → AVal
  | .ref i sz b len ex c => if i = id ∧ sz = n ∧ b = 0 ∧ len = n then .sl ys none else .ref i sz b len ex c
  | x => x

def subA (id n : Nat) (ys : List (List AVal)) : AVal → AVal
  | .ref i sz b len ex c => if i = id ∧ sz = n ∧ b = 0 ∧ len = n then .sl ys none else .ref i sz b len ex c
  | .agg cs => .agg (cs.map (sub0 id n ys))
  | x => x

def subO (id n : Nat) (ys : List (List AVal)) : Ob → Ob
  | .arr esz rows => .arr esz (rows.map fun r => r.map (sub0 id n ys))
  | .mp es => .mp es

def subH (id n : Nat) (ys : List (List AVal)) : Heap → Heap
  | [] => []
  | (i, o) :: h => if i = id then subH id n ys h else (i, subO id n ys o) :: subH id n ys h

theorem lk_subH {id n : Nat} {ys : List (List AVal)} : ∀ (h : Heap) (j : Nat), lk (subH id n ys h) j = if j = id then none else (lk h j).map (subO id n ys)
  | [], j => by simp [subH, lk]
  | (i, o) :: h, j => by
    simp only [subH]
    by_cases hi : i = id
    · subst hi
      rw [if_pos rfl, lk_subH h j]
      by_cases hj : j = i
      · simp [hj]
      · have : ¬ i = j := fun e => hj e.symm
        simp [hj, lk, this]
    · rw [if_neg hi]
      simp only [lk]
      by_cases hj : i = j
      · subst hj
        simp [hi]
      · rw [if_neg hj, if_neg hj, lk_subH h j]

section
variable {ext : Nat → Prop} {β : Nat → Option Nat} {w : World} {h : Heap} {n0 nx id n esz : Nat} {ys : List (List AVal)}

theorem subH_back {j : Nat} {o' : Ob} (e : lk (subH id n ys h) j = some o') : ¬ j = id ∧ ∃ o, lk h j = some o ∧ o' = subO id n ys o := by
  rw [lk_subH] at e
  split at e
  · cases e
  · rename_i hj
    obtain ⟨o, h1, h2⟩ := Option.map_eq_some_iff.1 e
    exact ⟨hj, o, h1, h2.symm⟩

theorem sub_step (p : Nat → Prop) : Step p (cx ext β h w) (cx ext β (subH id n ys h) w) where
  cell b o v h1 h2 := ⟨fun h3 => h1 (h3.imp (fun e => e) fun ⟨j, o', e1, e2⟩ => let ⟨_, o, e3, _⟩ := subH_back e1; ⟨j, o, e3, e2⟩), h2⟩
  shape _ _ h := h
  arr j _ esz rows hr := by
    obtain ⟨_, o, h1, h2⟩ := subH_back hr
    cases o with
    | arr e r =>
      simp only [subO] at h2
      injection h2 with h2 h3
      subst h2
      subst h3
      exact ⟨r, h1, by simp, fun _ => rfl⟩
    | mp es => cases h2
  mp j _ es hr := by
    obtain ⟨_, o, h1, h2⟩ := subH_back hr
    cases o with
    | arr e r => cases h2
    | mp es' =>
      simp only [subO] at h2
      injection h2 with h2
      subst h2
      exact ⟨_, h1, rfl⟩

variable {p : Nat → Prop} (hin : HIn ext β p h w) (hl : lk h id = some (.arr esz ys)) (hn : ys.length = n) (hz : Fz (.sl ys none))
include hin hl hn hz

theorem sub_leaf {sz b len c : Nat} {ex : Bool} {v : Value} (hv : VRel (cx ext β h w) (.ref id n 0 n ex c) v) : VRel (cx ext β (subH id n ys h) w) (.sl ys none) v := by
  have f := Frz.ref0 (h := h) (S := fun j => j = id) (id := id) (sz := n) (base := 0) (len := n) (ex := ex) (c := c) rfl hl hn (by omega)
  rw [List.drop_zero, List.take_of_length_le (by omega)] at f
  have r := Frz.rel (ext' := fun b => ext b ∨ owns β (subH id n ys h) b) hin (fun b hb => hb.imp (fun e => e) fun ⟨j, o', e1, e2⟩ => let ⟨_, o, e3, _⟩ := subH_back e1; ⟨j, o, e3, e2⟩) (fun j o b hj h1 h2 hb => by
    rcases hb with hb | ⟨k, o', e1, e2⟩
    · exact (hin.ext b hb).2 ⟨j, o, h1, h2⟩
    · obtain ⟨h3, o2, h4, _⟩ := subH_back e1
      exact h3 ((hin.inj k j o2 o b h4 h1 e2 h2).trans hj)) f v hv
  have st : Step (fun _ => False) (cx (fun b => ext b ∨ owns β (subH id n ys h) b) (fun _ => none) [] w) (cx ext β (subH id n ys h) w) :=
    ⟨fun b o v h1 h4 => ⟨fun h3 => h1 (Or.inl h3), h4⟩, fun _ _ h => h, fun _ h => h.elim, fun _ h => h.elim⟩
  exact r.step st hz

theorem sub0_rel {x : AVal} {v : Value} (hv : VRel (cx ext β h w) x v) (hx : Nm p x) : VRel (cx ext β (subH id n ys h) w) (sub0 id n ys x) v := by
  cases x with
  | ref i sz b len ex c =>
    simp only [sub0]
    split
    · rename_i he
      obtain ⟨rfl, rfl, rfl, rfl⟩ := he
      exact sub_leaf hin hl hn hz (sz := 0) (b := 0) (len := 0) hv
    · exact hv.step (sub_step p) hx
  | _ => exact hv.step (sub_step p) hx

theorem subA_rel {x : AVal} {v : Value} (hv : VRel (cx ext β h w) x v) (hx : Nm p x) : VRel (cx ext β (subH id n ys h) w) (subA id n ys x) v := by
  cases x with
  | ref i sz b len ex c => exact sub0_rel hin hl hn hz hv hx
  | agg cs =>
    simp only [subA]
    cases hv with | agg _ vs h1 h2 h3 =>
    cases hx with | agg _ hx =>
    refine .agg _ vs (by simpa using h1) h2 fun k y u hy hu => ?_
    rw [List.getElem?_map] at hy
    obtain ⟨z, hz1, rfl⟩ := Option.map_eq_some_iff.1 hy
    exact sub0_rel hin hl hn hz (h3 k z u hz1 hu) (hx z (List.mem_of_getElem? hz1))
  | _ => exact hv.step (sub_step p) hx

omit hin hl hn in
theorem sub0_nm {x : AVal} (hx : Nm p x) : Nm p (sub0 id n ys x) := by
  cases x with
  | ref i sz b len ex c =>
    simp only [sub0]
    split
    · exact Fz.nm hz p
    · exact hx
  | _ => exact hx

omit hin hl hn in
theorem subA_nm {x : AVal} (hx : Nm p x) : Nm p (subA id n ys x) := by
  cases x with
  | ref i sz b len ex c => exact sub0_nm hz hx
  | agg cs =>
    cases hx with | agg _ hx =>
    refine .agg _ fun y hy => ?_
    obtain ⟨z, h1, rfl⟩ := List.mem_map.1 hy
    exact sub0_nm hz (hx z h1)
  | _ => exact hx

theorem sub_hin : HIn ext β p (subH id n ys h) w := by
  refine ⟨fun j o' hj => ?_, fun j o' hj => ?_, fun j j' o o' b h1 h2 h3 h4 => ?_, fun b hb => ⟨(hin.ext b hb).1, fun ⟨j, o', e1, e2⟩ => let ⟨_, o, e3, _⟩ := subH_back e1; (hin.ext b hb).2 ⟨j, o, e3, e2⟩⟩⟩
  · obtain ⟨_, o, h1, rfl⟩ := subH_back hj
    have h2 := hin.ob j o h1
    have h3 := (hin.nm j o h1).2
    cases o with
    | arr e rows =>
      obtain ⟨h4, h5⟩ := h2
      refine ⟨fun r hr => ?_, ?_⟩
      · obtain ⟨r0, h6, rfl⟩ := List.mem_map.1 hr
        rw [List.length_map]
        exact h4 r0 h6
      · show match β j with | none => _ | some b => _
        have h5' : match β j with | none => rows = [] | some b => _ := h5
        cases hb : β j with
        | none =>
          simp only [hb] at h5' ⊢
          rw [h5']
          rfl
        | some b =>
          simp only [hb] at h5' ⊢
          obtain ⟨cs, e', h6, h7, h8⟩ := h5'
          refine ⟨cs, e', h6, by simpa using h7, fun i r k x hr hx => ?_⟩
          rw [List.getElem?_map] at hr
          obtain ⟨r0, h9, rfl⟩ := Option.map_eq_some_iff.1 hr
          rw [List.getElem?_map] at hx
          obtain ⟨x0, h10, rfl⟩ := Option.map_eq_some_iff.1 hx
          obtain ⟨v, h11, h12, h13⟩ := h8 i r0 k x0 h9 h10
          exact ⟨v, h11, h12, sub0_rel hin hl hn hz h13 (h3 r0 (List.mem_of_getElem? h9) x0 (List.mem_of_getElem? h10))⟩
    | mp es => exact ObIn.step (sub_step p) rfl (fun _ _ => rfl) h3 h2
  · obtain ⟨_, o, h1, rfl⟩ := subH_back hj
    have h3 := hin.nm j o h1
    refine ⟨h3.1, ?_⟩
    cases o with
    | arr e rows =>
      intro r hr x hx
      obtain ⟨r0, h6, rfl⟩ := List.mem_map.1 hr
      obtain ⟨x0, h7, rfl⟩ := List.mem_map.1 hx
      exact sub0_nm hz (h3.2 r0 h6 x0 h7)
    | mp es => exact h3.2
  · obtain ⟨_, o1, e1, _⟩ := subH_back h1
    obtain ⟨_, o2, e2, _⟩ := subH_back h2
    exact hin.inj j j' o1 o2 b e1 e2 h3 h4

end

section
variable {P : Program} {n0 : Nat} {Q : Exit → St → Prop} {k : List It} {all : Array Oper} {K : St → Prop}

theorem SIn.sub {ext : Nat → Prop} {β : Nat → Option Nat} {tm : List AVal} {h : Heap} {nx id n esz : Nat} {ys : List (List AVal)} {a : Act} {w : World} (i : SIn n0 ext β ⟨tm, h, nx⟩ a w) (hl : lk h id = some (.arr esz ys)) (hn : ys.length = n) (hz : Fz (.sl ys none)) :
    SIn n0 ext β ⟨tm.map (subA id n ys), subH id n ys h, nx⟩ a w ∧ Goes n0 ext β h w β (subH id n ys h) w := by
  refine ⟨⟨sub_hin i.heap hl hn hz, by rw [i.size]; simp, fun k y v hy hv => ?_, fun y hy => ?_, i.defers, i.low⟩,
    ⟨⟨Nat.le_refl _, fun _ _ _ => rfl, fun b _ ⟨j, o', e1, e2⟩ => let ⟨_, o, e3, _⟩ := subH_back e1; ⟨j, o, e3, e2⟩, fun _ _ h => h, rfl, rfl, rfl⟩, sub_step _⟩⟩
  · rw [List.getElem?_map] at hy
    obtain ⟨x, h1, rfl⟩ := Option.map_eq_some_iff.1 hy
    exact subA_rel i.heap hl hn hz (i.rel k x v h1 hv) (i.nm x (List.mem_of_getElem? h1))
  · obtain ⟨x, h1, rfl⟩ := List.mem_map.1 hy
    exact subA_nm hz (i.nm x h1)

/-- The object in a slot is taken for a list. -/
theorem W_frzT {α : Type} [Enc α] {c : Code} {tm tm' : List AVal} {hp hp' : Heap} {nx id n esz cc : Nat} {ex : Bool} {xs : List (List AVal)} (t : Nat) (l : List α) (ht : tm[t]? = some (.ref id n 0 n ex cc)) (hl : lk hp id = some (.arr esz xs)) (e : xs = rws l) (hn : l.length = n)
    (e1 : tm.map (subA id n (rws l)) = tm') (e2 : subH id n (rws l) hp = hp') (h : AWP P n0 c (unw P n0 k Q) ⟨tm', hp', nx⟩) : AWP P n0 c (unw P n0 k Q) ⟨tm, hp, nx⟩ := by
  subst e
  subst e1
  subst e2
  intro ext β a w i
  obtain ⟨i2, g2⟩ := i.sub hl (by rw [rws_length, hn]) (rws_fz l none)
  exact wp_mono (h ext β a w i2) fun _ _ _ p => p.after g2

theorem AO_frzT {α : Type} [Enc α] {rest : List Oper} {i : Nat} {tm tm' : List AVal} {hp hp' : Heap} {nx id n esz cc : Nat} {ex : Bool} {xs : List (List AVal)} (t : Nat) (l : List α) (ht : tm[t]? = some (.ref id n 0 n ex cc)) (hl : lk hp id = some (.arr esz xs)) (e : xs = rws l) (hn : l.length = n)
    (e1 : tm.map (subA id n (rws l)) = tm') (e2 : subH id n (rws l) hp = hp') (h : AO P n0 all rest i K ⟨tm', hp', nx⟩) : AO P n0 all rest i K ⟨tm, hp, nx⟩ := by
  subst e
  subst e1
  subst e2
  intro hd ext β a w hs Q hq
  obtain ⟨i2, g2⟩ := SIn.sub hs hl (by rw [rws_length, hn]) (rws_fz l none)
  exact h hd ext β a w i2 Q fun β' s' a' w' h1 h2 h3 => hq β' s' a' w' h1 h2 (g2.trans h3)

/-- Rows whose cells are only handed on stay as they are. -/
theorem rws_sub {α : Type} [Enc α] {id n : Nat} {ys : List (List AVal)} (l : List α) : ((rws l).map fun r => r.map (sub0 id n ys)) = rws l := by
  have h0 : ∀ r, r ∈ rws l → r.map (sub0 id n ys) = r := fun r hr => by
    have : ∀ x, x ∈ r → sub0 id n ys x = x := fun x hx => by
      have hz := rws_mem l r hr x hx
      cases x with
      | ref i sz b len ex c => cases hz with | ref _ _ _ _ _ _ hf => exact hf.elim
      | _ => rfl
    exact (List.map_congr_left (g := fun x => x) this).trans (List.map_id' r)
  exact (List.map_congr_left (g := fun x => x) h0).trans (List.map_id' _)

/-- Several ways come together again: what is known behind a piece of code. -/
theorem W_cutM {γ : Type} {c : Code} {tm : List AVal} {hp : Heap} {nx : Nat} (mask : γ → List (Option AVal)) (J : γ → Prop) (h : AWP P n0 c (unw P n0 [] fun e s => e = .normal ∧ ∃ g, J g ∧ Weak n0 s ⟨msk (mask g) tm, hp, nx⟩) ⟨tm, hp, nx⟩)
    (after : ∀ g, J g → unw P n0 k Q .normal ⟨msk (mask g) tm, hp, nx⟩) : AWP P n0 c (unw P n0 k Q) ⟨tm, hp, nx⟩ := by
  intro ext β a w i
  refine wp_mono (h ext β a w i) ?_
  rintro e a2 w2 ⟨β2, s2, ⟨rfl, g, hg, hw⟩, i2, g2⟩
  obtain ⟨i3, g3⟩ := i2.weak hw
  exact ⟨β2, _, after g hg, i3, g2.trans g3⟩

theorem N_cut {s : St} {γ : Type} {G : γ → St} {J : γ → Prop} (g : γ) (h : J g) (hw : Weak n0 s (G g)) : unw P n0 [] (fun e s => e = .normal ∧ ∃ g, J g ∧ Weak n0 s (G g)) .normal s := ⟨rfl, g, h, hw⟩

theorem W_regNe {s : St} {id : Nat} {ops : List Oper} (m : Nat) (hm : ¬ id = m) (h : ∀ K : St → Prop, (∀ s', unw P n0 k Q .normal s' → K s') → AO P n0 ops.toArray ops 0 K s) :
    AWP P n0 (.region id ops.toArray false) (unw P n0 k Q) s := W_reg h

theorem W_drwNe {tm : List AVal} {hp : Heap} {nx : Nat} {id : Nat} {ops : List Oper} (m : Nat) (hn : ¬ id = m) (hm : P.follows .mixedOrders = true) (hc : chk ops.toArray (preds ops.toArray) = true)
    (h : ∀ K : St → Prop, (∀ s', unw P n0 k Q .normal s' → K s') → DW true P ops.toArray nx K ops 0 tm hp []) : AWP P n0 (.region id ops.toArray true) (unw P n0 k Q) ⟨tm, hp, nx⟩ := W_drw hm hc h

theorem W_drwRNe {tm : List AVal} {hp : Heap} {nx : Nat} {id : Nat} {ops : List Oper} (m : Nat) (hn : ¬ id = m) (hr : ops.all rdOp = true) (hm : P.follows .mixedOrders = true) (hc : chk ops.toArray (preds ops.toArray) = true)
    (h : ∀ K : St → Prop, (∀ s', unw P n0 k Q .normal s' → K s') → DV P ops.toArray nx K ops 0 tm hp) : AWP P n0 (.region id ops.toArray true) (unw P n0 k Q) ⟨tm, hp, nx⟩ := W_drwR hr hm hc h

theorem frT {hp h2 : Heap} {xs ys : List AVal} (f : FrzL hp h2 xs ys := by
    first
      | (repeat' first
          | exact FrzL.nil
          | apply FrzL.keep
          | apply FrzL.forget
          | (refine FrzL.fn1 rfl rfl ?_)
          | (refine FrzL.whole (lk_head _ _ _) rfl ?_ ?_)
          | (refine FrzL.whole rfl rfl ?_ ?_)
          | (refine FrzL.ofFrz ?_ ?_)
          | (refine .aggC ?_)
          | (refine .cons ?_ ?_)
          | exact .refl _
          | exact .nil
          | exact .slR (.refl _)
          | exact .refE rfl (by simp only [go_sem]; exact rfl) (by first | rfl | (simp; done) | (simp [rws, Enc.enc]; done)) (by first | rfl | simp [rws_length])
          | rfl
          | (simp only [go_sem]; done)
         done)
      | fail) : FrzL hp h2 xs ys := f

theorem subT {id n : Nat} {ys : List (List AVal)} {tm tm' : List AVal} (e : tm.map (subA id n ys) = tm' := by (simp (disch := omega) only [subA, sub0, go_sem, false_and, true_and, if_true, if_false]; exact rfl)) : tm.map (subA id n ys) = tm' := e
theorem subU {id n : Nat} {ys : List (List AVal)} {hp hp' : Heap} (e : subH id n ys hp = hp' := by (simp only [subH, subO, sub0, rws_sub, go_sem, false_and, true_and, if_true, if_false]; exact rfl)) : subH id n ys hp = hp' := e


end
end Go.AM
end

section
set_option linter.unusedVariables false
set_option linter.unusedSimpArgs false
namespace Go.AM
open Go

/-- Values that name one object. -/
inductive Nat1 : (Nat → AVal) → Prop
  | const (y : AVal) (h : Fz y) : Nat1 (fun _ => y)
  | ref (sz base len : Nat) (ex : Bool) (c : Nat) : Nat1 (fun j => .ref j sz base len ex c)
  | agg (cs : List (Nat → AVal)) (h : ∀ c, c ∈ cs → Nat1 c) : Nat1 (fun j => .agg (cs.map fun c => c j))
  | tuple (cs : List (Nat → AVal)) (h : ∀ c, c ∈ cs → Nat1 c) : Nat1 (fun j => .tuple (cs.map fun c => c j))

theorem nat1_nm {p : Nat → Prop} {x : Nat → AVal} (h : Nat1 x) (j : Nat) (hj : p j) : Nm p (x j) := by
  induction h with
  | const y h => exact Fz.nm h p
  | ref sz base len ex c => exact .ref _ _ _ _ _ _ hj
  | agg cs h ih =>
    refine .agg _ fun y hy => ?_
    obtain ⟨c, h1, rfl⟩ := List.mem_map.1 hy
    exact ih c h1
  | tuple cs h ih =>
    refine .tuple _ fun y hy => ?_
    obtain ⟨c, h1, rfl⟩ := List.mem_map.1 hy
    exact ih c h1

theorem nat1_rel {c d : Cx} {id fresh : Nat} {ob : Ob} (st : Step (fun _ => False) c d) (hb : d.β fresh = c.β id) (hl : lk c.h id = some ob) (hl' : lk d.h fresh = some ob) {x : Nat → AVal} (h : Nat1 x) : ∀ v, VRel c (x id) v → VRel d (x fresh) v := by
  induction h with
  | const y h => exact fun v hv => hv.step st h
  | ref sz base len ex cc =>
    intro v hv
    cases hv with | ref _ _ _ _ _ _ a cap h1 h2 h3 h4 =>
    refine .ref fresh sz base len ex cc a cap h1 h2 h3 fun esz rows hr => ?_
    have hr' : lk c.h id = some (.arr esz rows) := by rw [hl, ← hl', hr]
    obtain ⟨h5, h6⟩ := h4 esz rows hr'
    refine ⟨h5, fun e => ?_⟩
    obtain ⟨h7, h8⟩ := h6 e
    refine ⟨h7, ?_⟩
    rcases h8 with h8 | ⟨b, h9, h10, e', n, h11, h12⟩
    · exact .inl h8
    · exact .inr ⟨b, hb.trans h9, h10, e', n, st.shape _ _ h11, h12⟩
  | agg cs h ih =>
    intro v hv
    cases hv with | agg _ vs h1 h2 h3 =>
    refine .agg _ vs (by simpa using h1) h2 fun i y u hy hu => ?_
    rw [List.getElem?_map] at hy
    obtain ⟨f, hf, rfl⟩ := Option.map_eq_some_iff.1 hy
    exact ih f (List.mem_of_getElem? hf) u (h3 i (f id) u (by rw [List.getElem?_map, hf]; rfl) hu)
  | tuple cs h ih =>
    intro v hv
    cases hv with | tuple _ vs h1 h3 =>
    refine .tuple _ vs (by simpa using h1) fun i y u hy hu => ?_
    rw [List.getElem?_map] at hy
    obtain ⟨f, hf, rfl⟩ := Option.map_eq_some_iff.1 hy
    exact ih f (List.mem_of_getElem? hf) u (h3 i (f id) u (by rw [List.getElem?_map, hf]; rfl) hu)

/-- What the end of such a function has to be. -/
def retN (P : Program) (rs : List ResultVar) (x : Nat → AVal) (ob : Ob) : Exit → St → Prop
  | .normal, s => ∃ xs id, resAs P s rs = some xs ∧ packA xs = x id ∧ lk s.h id = some ob
  | .ret, s => ∃ xs id, resAs P s rs = some xs ∧ packA xs = x id ∧ lk s.h id = some ob
  | _, _ => False

section
variable {fl : Bool} {P : Program}

theorem PNew_intro {g : FuncId} {args : List AVal} {x : Nat → AVal} {esz : Nat} {rows : List (List AVal)} {fn : Func} {c : Code} (hf : P.funcs[g]? = some fn) (hb : fn.body = some c) (hname : (fn.name == "runtime.NumGoroutine") = false)
    (hargs : ∀ x, x ∈ args → Fz x) (hx : Nat1 x) (hob : ∀ r, r ∈ rows → ∀ y, y ∈ r → Fz y) (hw : AWP P 0 c (retN P fn.results.toList x (.arr esz rows)) ⟨args ++ List.replicate (fn.ntmps - args.length) .junk, [], 0⟩) : PNew P g args x (.arr esz rows) := by
  refine ⟨⟨fn, hf, hname, by rw [hb]; rfl⟩, fun ext β p h w vs fresh hin hpf hl hr => ?_⟩
  have hno : ∀ b, ¬ owns (fun _ => none) [] b := fun b ⟨_, _, h1, _⟩ => by simp [lk] at h1
  have hext : ∀ b, (ext b ∨ owns β h b) → b < w.heap.size := fun b hb => hb.elim (fun h1 => (hin.ext b h1).1) fun h1 => hin.lt h1
  have i : SIn 0 (fun b => ext b ∨ owns β h b) (fun _ => none) ⟨args ++ List.replicate (fn.ntmps - args.length) .junk, [], 0⟩ { tmps := vs ++ Array.replicate (fn.ntmps - vs.size) undef, defers := [] } w := by
    refine ⟨⟨fun id o ho => by simp [lk] at ho, fun id o ho => by simp [lk] at ho, fun id id' o o' b h1 => by simp [lk] at h1, fun b hb => ⟨hext b hb, hno b⟩⟩, by simp [hl], fun k y v hy hv => ?_, fun y hy => ?_, rfl, fun j hj => hj⟩
    · by_cases hk : k < args.length
      · rw [List.getElem?_append_left hk] at hy
        rw [Array.getElem?_append_left (by rw [hl]; exact hk)] at hv
        exact hr k y v hy hv
      · rw [List.getElem?_append_right (by omega), List.getElem?_replicate] at hy
        split at hy
        · injection hy with hy; exact hy ▸ .junk v
        · cases hy
    · rcases List.mem_append.1 hy with hy | hy
      · exact Fz.nm (hargs y hy) _
      · rw [List.mem_replicate] at hy; rw [hy.2]; exact .junk
  refine calls_of_wp hf hb (wp_mono (hw (fun b => ext b ∨ owns β h b) (fun _ => none) _ w i) ?_)
  rintro e a' w' ⟨β1, s', q, i', gs⟩
  have hfin : (∃ xs id, resAs P s' fn.results.toList = some xs ∧ packA xs = x id ∧ lk s'.h id = some (.arr esz rows)) →
      a'.defers = [] ∧ ∃ v, (results fn a'.tmps).run P w' = .ok v w' ∧ ∃ v' β', Ending.returned v = .returned v' ∧ HIn ext β' (fun j => p j ∨ j = fresh) ((fresh, .arr esz rows) :: h) w' ∧ VRel (cx ext β' ((fresh, .arr esz rows) :: h) w') (x fresh) v' ∧
        Nm (fun j => p j ∨ j = fresh) (x fresh) ∧ Evo (owns β h) w (owns β' ((fresh, .arr esz rows) :: h)) w' ∧ Step p (cx ext β h w) (cx ext β' ((fresh, .arr esz rows) :: h) w') := by
    rintro ⟨xs, id, h1, h2, h3⟩
    obtain ⟨v, h5, h6⟩ := results_ok i' h1
    rw [h2] at h6
    have hev : Evo (fun _ => False) w (fun _ => False) w' := ⟨gs.evo.size, fun b hb _ => gs.evo.keep b hb (hno b), fun _ _ h => h, gs.evo.shape, gs.evo.rest⟩
    obtain ⟨k1, k2, k3⟩ := hin.evo hev
    have hnew : ∀ b, β1 id = some b → ¬ b < w.heap.size := fun b hb hlt => hno b (gs.evo.fresh b hlt ⟨id, _, h3, hb⟩)
    have hold : ∀ j o, lk h j = some o → ¬ j = fresh := fun j o hj e => hpf (e ▸ (hin.nm j o hj).1)
    obtain ⟨β', hβ'⟩ : ∃ β' : Nat → Option Nat, β' = fun j => if j = fresh then β1 id else β j := ⟨_, rfl⟩
    have hβf : β' fresh = β1 id := by simp [hβ']
    have hβo : ∀ j, ¬ j = fresh → β' j = β j := fun j hj => by simp [hβ', hj]
    have hown : ∀ b, owns β' ((fresh, .arr esz rows) :: h) b → β1 id = some b ∨ owns β h b := by
      rintro b ⟨j, o, e1, e2⟩
      rw [lk_cons] at e1
      by_cases hj : j = fresh
      · subst hj
        rw [hβf] at e2
        exact .inl e2
      · rw [if_neg hj] at e1
        rw [hβo j hj] at e2
        exact .inr ⟨j, o, e1, e2⟩
    have stA : Step p (cx ext β h w) (cx ext β' ((fresh, .arr esz rows) :: h) w') := by
      refine ⟨fun b o u hn hc => ?_, gs.evo.shape, fun j hj esz1 rows1 hr1 => ?_, fun j hj es hr1 => ?_⟩
      · obtain ⟨h7, h8⟩ := (k3 p).cell b o u hn hc
        refine ⟨fun h9 => ?_, h8⟩
        rcases h9 with h9 | h9
        · exact hn (.inl h9)
        · rcases hown b h9 with h10 | h10
          · exact hnew b h10 (cell_lt hc)
          · exact hn (.inr h10)
      · have e : ¬ j = fresh := fun e => hpf (e ▸ hj)
        have hr2 : lk ((fresh, Ob.arr esz rows) :: h) j = some (.arr esz1 rows1) := hr1
        rw [lk_cons, if_neg e] at hr2
        exact ⟨rows1, hr2, Nat.le_refl _, fun _ => hβo j e⟩
      · have e : ¬ j = fresh := fun e => hpf (e ▸ hj)
        have hr2 : lk ((fresh, Ob.arr esz rows) :: h) j = some (.mp es) := hr1
        rw [lk_cons, if_neg e] at hr2
        exact ⟨es, hr2, hβo j e⟩
    have stB : Step (fun _ => False) (cx (fun b => ext b ∨ owns β h b) β1 s'.h w') (cx ext β' ((fresh, .arr esz rows) :: h) w') := by
      refine ⟨fun b o u hn hc => ⟨fun h9 => hn ?_, hc⟩, fun _ _ h => h, fun _ h => h.elim, fun _ h => h.elim⟩
      rcases h9 with h9 | h9
      · exact .inl (.inl h9)
      · rcases hown b h9 with h10 | h10
        · exact .inr ⟨id, _, h3, h10⟩
        · exact .inl (.inr h10)
    have hlk : lk ((fresh, Ob.arr esz rows) :: h) fresh = some (.arr esz rows) := by rw [lk_cons, if_pos rfl]
    refine ⟨i'.defers, v, h5, v, β', rfl, ⟨fun j o hj => ?_, fun j o hj => ?_, fun j j' o o' b hj hj' e1 e2 => ?_, fun b hb => ⟨Nat.lt_of_lt_of_le (hin.ext b hb).1 gs.evo.size, fun h9 => ?_⟩⟩, nat1_rel stB hβf h3 hlk hx v h6, nat1_nm hx fresh (.inr rfl), ?_, stA⟩
    · rw [lk_cons] at hj
      by_cases e : j = fresh
      · subst e
        rw [if_pos rfl] at hj
        injection hj with hj
        subst hj
        obtain ⟨h7, h8⟩ := i'.heap.ob id _ h3
        refine ⟨h7, ?_⟩
        have h8' : match β1 id with | none => rows = [] | some b => _ := h8
        show match β' j with | none => rows = [] | some b => _
        rw [hβf]
        cases hb : β1 id with
        | none => simpa only [hb] using h8'
        | some b =>
          simp only [hb] at h8' ⊢
          obtain ⟨cs, e', h9, h10, h11⟩ := h8'
          refine ⟨cs, e', h9, h10, fun i r k y hr hy => ?_⟩
          obtain ⟨u, h12, h13, h14⟩ := h11 i r k y hr hy
          exact ⟨u, h12, h13, h14.step stB (hob r (List.mem_of_getElem? hr) y (List.mem_of_getElem? hy))⟩
      · rw [if_neg e] at hj
        exact ObIn.step stA (hβo j e) (fun b hb => gs.evo.keep b (hin.lt ⟨j, o, hj, hb⟩) (hno b)) (hin.nm j o hj).2 (hin.ob j o hj)
    · rw [lk_cons] at hj
      by_cases e : j = fresh
      · rw [if_pos e] at hj
        injection hj with hj
        subst hj
        exact ⟨.inr e, fun r hr y hy => Fz.nm (hob r hr y hy) _⟩
      · rw [if_neg e] at hj
        exact ⟨.inl (hin.nm j o hj).1, Ob.nm_mono (fun _ => .inl) (hin.nm j o hj).2⟩
    · rw [lk_cons] at hj hj'
      by_cases e : j = fresh
      · by_cases e' : j' = fresh
        · rw [e, e']
        · exfalso
          rw [if_neg e'] at hj'
          rw [e, hβf] at e1
          rw [hβo j' e'] at e2
          exact hnew b e1 (hin.lt ⟨j', o', hj', e2⟩)
      · rw [if_neg e] at hj
        rw [hβo j e] at e1
        by_cases e' : j' = fresh
        · exfalso
          rw [e', hβf] at e2
          exact hnew b e2 (hin.lt ⟨j, o, hj, e1⟩)
        · rw [if_neg e'] at hj'
          rw [hβo j' e'] at e2
          exact hin.inj j j' o o' b hj hj' e1 e2
    · rcases hown b h9 with h10 | h10
      · exact hnew b h10 (hin.ext b hb).1
      · exact (hin.ext b hb).2 h10
    · refine ⟨gs.evo.size, fun b hb _ => gs.evo.keep b hb (hno b), fun b hb h9 => ?_, gs.evo.shape, gs.evo.rest⟩
      rcases hown b h9 with h10 | h10
      · exact absurd hb (hnew b h10)
      · exact h10
  cases e with
  | normal => exact hfin q
  | ret => exact hfin q
  | exit id => exact q.elim
  | goto l => exact q.elim
  | panic c => exact q.elim
  | outgrown => exact q.elim

/-- As retN; or what is handed back is a list of nothing at all, in some slot. -/
def retU (P : Program) (rs : List ResultVar) (x : Nat → AVal) (ob : Ob) (e : Exit) (s : St) : Prop :=
  retN P rs x ob e s ∨ ∃ t esz, s.tmps[t]? = some (.sl [] (some 0)) ∧ retN P rs x ob e ⟨s.tmps.set t (.ref s.nx 0 0 0 false 0), (s.nx, .arr esz []) :: s.h, s.nx + 1⟩

theorem SIn.newL {n0 : Nat} {ext : Nat → Prop} {β : Nat → Option Nat} {tm tm' : List AVal} {hp : Heap} {nx : Nat} {a : Act} {w : World} (i : SIn n0 ext β ⟨tm, hp, nx⟩ a w) (esz : Nat) (hf : NewL nx tm tm') :
    SIn n0 ext (fun j => if j = nx then none else β j) ⟨tm', (nx, .arr esz []) :: hp, nx + 1⟩ a w ∧ Goes n0 ext β hp w (fun j => if j = nx then none else β j) ((nx, .arr esz []) :: hp) w := by
  obtain ⟨hl, hg⟩ := hf.get
  obtain ⟨h1, h2, h3⟩ := i.heap.unborn (fresh := nx) (fun h => Nat.lt_irrefl _ h) esz
  have hlow : n0 ≤ nx := by
    rcases Nat.lt_or_ge nx n0 with h8 | h8
    · exact absurd (i.low nx h8) (Nat.lt_irrefl _)
    · exact h8
  have hq : ∀ j, (Lt nx j ∨ j = nx) → Lt (nx + 1) j := fun j hj => by simp only [Lt] at *; omega
  refine ⟨⟨HIn.mono hq h1, by rw [i.size]; exact hl.symm, fun k y v hy hv => ?_, fun y hy => ?_, i.defers, fun j hj => hq j (.inl (i.low j hj))⟩, ⟨h2, h3.weaken fun j hj => Nat.lt_of_lt_of_le hj hlow⟩⟩
  · have hk : k < tm.length := by rw [← hl]; exact (List.getElem?_eq_some_iff.1 hy).1
    rcases hg k tm[k] y (List.getElem?_eq_getElem hk) hy with rfl | rfl | ⟨e1, rfl⟩
    · exact (i.rel k _ v (List.getElem?_eq_getElem hk) hv).step h3 (i.nm _ (List.getElem_mem hk))
    · exact .junk v
    · have hv1 := i.rel k _ v (List.getElem?_eq_getElem hk) hv
      rw [e1] at hv1
      cases hv1 with | sl _ _ a1 cap esz1 blk off vals hcap hlim _ _ _ _ =>
      have hc := hlim 0 rfl
      subst hc
      refine .ref nx 0 0 0 false 0 a1 0 (Nat.le_refl _) (Nat.le_refl _) (fun h => by cases h) fun esz2 rows2 hr => ?_
      exact ⟨Nat.zero_le _, fun _ => ⟨Nat.le_refl _, .inl rfl⟩⟩
  · obtain ⟨k, hk⟩ := List.getElem?_of_mem hy
    have hk' : k < tm.length := by rw [← hl]; exact (List.getElem?_eq_some_iff.1 hk).1
    rcases hg k tm[k] y (List.getElem?_eq_getElem hk') hk with rfl | rfl | ⟨e1, rfl⟩
    · exact Nm.mono (fun j hj => hq j (.inl hj)) (i.nm _ (List.getElem_mem hk'))
    · exact .junk
    · exact .ref _ _ _ _ _ _ (Nat.lt_succ_self nx)

/-- A function that hands back a new object, by its body. -/
theorem PNew_body {g : FuncId} {args : List AVal} {x : Nat → AVal} {esz : Nat} {rows : List (List AVal)} {fn : Func} {c : Code} (hf : P.funcs[g]? = some fn) (hb : fn.body = some c) (hname : (fn.name == "runtime.NumGoroutine") = false)
    (hargs : ∀ x, x ∈ args → Fz x) (hx : Nat1 x) (hob : ∀ r, r ∈ rows → ∀ y, y ∈ r → Fz y) (hw : AWP P 0 c (retU P fn.results.toList x (.arr esz rows)) ⟨args ++ List.replicate (fn.ntmps - args.length) .junk, [], 0⟩) : PNew P g args x (.arr esz rows) := by
  refine PNew_intro hf hb hname hargs hx hob fun ext β a w i => ?_
  refine wp_mono (hw ext β a w i) ?_
  rintro e a2 w2 ⟨β2, s2, q, i2, g2⟩
  rcases q with q | ⟨t, esz', ht, q⟩
  · exact ⟨β2, s2, q, i2, g2⟩
  · obtain ⟨i3, g3⟩ := SIn.newL (tm := s2.tmps) (hp := s2.h) (nx := s2.nx) i2 esz' (NewL.at s2.tmps t ht)
    exact ⟨_, _, q, i3, g2.trans g3⟩

theorem retU_of {rs : List ResultVar} {x : Nat → AVal} {ob : Ob} {s : St} {xs : List AVal} {id : Nat} (h : resAs P s rs = some xs) (h2 : packA xs = x id) (h3 : lk s.h id = some ob) : retU P rs x ob .ret s := .inl ⟨xs, id, h, h2, h3⟩
theorem retUN_of {rs : List ResultVar} {x : Nat → AVal} {ob : Ob} {s : St} {xs : List AVal} {id : Nat} (h : resAs P s rs = some xs) (h2 : packA xs = x id) (h3 : lk s.h id = some ob) : retU P rs x ob .normal s := .inl ⟨xs, id, h, h2, h3⟩
theorem retU_nil {rs : List ResultVar} {x : Nat → AVal} {ob : Ob} {tm tm' : List AVal} {hp : Heap} {nx : Nat} {xs : List AVal} {id : Nat} (t esz : Nat) (ht : tm[t]? = some (.sl [] (some 0))) (e : tm.set t (.ref nx 0 0 0 false 0) = tm')
    (h : resAs P ⟨tm', (nx, .arr esz []) :: hp, nx + 1⟩ rs = some xs) (h2 : packA xs = x id) (h3 : lk ((nx, .arr esz []) :: hp) id = some ob) : retU P rs x ob .ret ⟨tm, hp, nx⟩ := by
  subst e
  exact .inr ⟨t, esz, ht, xs, id, h, h2, h3⟩

variable {n0 : Nat} {all : Array Oper} {K : St → Prop}

/-- A call that hands back a new object. -/
theorem AO_newE {o : Oper} {rest : List Oper} {i nx nx' : Nat} {tm tm' : List AVal} {hp : Heap} {c : Call} {g : FuncId} {args args' : List AVal} {x : Nat → AVal} {ob : Ob} {y : AVal} (hg : guardA all tm o = some true) (ho : o.op = .call c) (ht : target tm c = some (g, args))
    (hc : PNew P g args' x ob) (hf : FrzL [] [] args args') (hy : x nx = y) (htm : putT tm o.dst y = tm') (hn : nx + 1 = nx') (h : AO P n0 all rest (i + 1) K ⟨tm', (nx, ob) :: hp, nx'⟩) : AO P n0 all (o :: rest) i K ⟨tm, hp, nx⟩ := by
  subst hy
  subst htm
  subst hn
  refine AO_cons fun ext β a w hs hoo Q' next hnext => ?_
  rw [guard_ok hs hg, if_pos rfl]
  refine .inl ?_
  refine new_wp hs (fun hp => Nat.lt_irrefl _ hp) ho ht hc hf.get.1 (fun k x y hx hy => Frz.widen (fun _ h => h.elim) (Frz.none ((hf.get.2 k x y hx hy).nowhere) hp)) fun v w' β' q1 q2 q3 q4 q5 => ?_
  have hpq : ∀ j, Lt nx j ∨ j = nx → Lt (nx + 1) j := fun j hj => by rcases hj with hj | hj <;> simp only [Lt] at * <;> omega
  have hlow : n0 ≤ nx := by
    rcases Nat.lt_or_ge nx n0 with h8 | h8
    · exact absurd (hs.low nx h8) (Nat.lt_irrefl _)
    · exact h8
  exact hnext β' _ _ _ h ((hs.put q1 (fun _ => .inl) q5 q2 q3 o.dst).mono hpq) ⟨q4, q5.weaken fun j hj => Nat.lt_of_lt_of_le hj hlow⟩

theorem D_newE {nx : Nat} {o : Oper} {rest : List Oper} {i i' id : Nat} {tm tm' : List AVal} {hp : Heap} {tc tc' : List (Bool × List Nat)} {c : Call} {g : FuncId} {args args' : List AVal} {x : Nat → AVal} {ob : Ob} {y : AVal} (hg : guardA all tm o = some true) (ho : o.op = .call c) (ht : target tm c = some (g, args))
    (hc : PNew P g args' x ob) (hf : FrzL [] [] args args') (hid : nx + i = id) (hy : x id = y) (htm : putT tm o.dst y = tm') (hn : i + 1 = i') (htc : tc ++ [(false, [])] = tc') (h : DW fl P all nx K rest i' tm' ((id, ob) :: hp) tc') : DW fl P all nx K (o :: rest) i tm hp tc := by
  subst hid
  subst hy
  subst htm
  subst hn
  subst htc
  exact D_fresh c g args args' x ob hg ho ht hc hf.get.1 (fun k x y hx hy => Frz.widen (fun _ h => h.elim) (Frz.none ((hf.get.2 k x y hx hy).nowhere) hp)) h

theorem run_eq_slice_nil {w : World} (d : Nat) {t e : TypeId} (h : P.underlying t = some (.slice e)) (a : Option Addr) (n c : Nat) :
    (Op.equalIn (d + 1) t (.slice a n c) (.slice none 0 0)).run P w = .ok a.isNone w := by
  cases a <;> simp [Op.equalIn, run_underlying h]

/-- A slice is held against nil: one with something in it is none; of one with nothing in it, either is possible. -/
theorem AO_nilE {o : Oper} {rest : List Oper} {i nx nx' : Nat} {tm : List AVal} {hp : Heap} {t yt : TypeId} {x : Operand} {rows : List (List AVal)} {lim : Option Nat} {e n m : Nat} {z : AVal} (hg : guardA all tm o = some true) (ho : o.op = .binOp .eql t x (.const (.slice none 0 0)) yt)
    (ht : tab P t = some ⟨.slice e, n, m, z⟩) (hx : ev tm x = .sl rows lim) (hn : nx + 1 = nx') (h : ∀ b, (rows.length = 0 ∨ b = false) → AO P n0 all rest (i + 1) K ⟨putT tm o.dst (.bool b), hp, nx'⟩) : AO P n0 all (o :: rest) i K ⟨tm, hp, nx⟩ := by
  subst hn
  refine AO_cons fun ext β a w hs hoo Q' next hnext => ?_
  rw [guard_ok hs hg, if_pos rfl]
  refine .inl ?_
  have hv := hs.ev x
  rw [show ev _ x = .sl rows lim from hx] at hv
  generalize hz : a.eval x = v at hv
  cases hv with | sl _ _ ad cap esz blk off vals h1 h2 h3 h4 h5 h6 =>
  have hrun : (execOp a.eval o).run P w = .ok (.value (.bool ad.isNone)) w := by
    have e1 : execOp a.eval o = (do pure (.value (← (do eqGuard .eql t x (.const (.slice none 0 0)) (a.eval x) (a.eval (.const (.slice none 0 0))); binOp .eql t (a.eval x) (a.eval (.const (.slice none 0 0))) : Sem Value))) : Sem Next) := by
      obtain ⟨dst, op, type, pos, after, guard⟩ := o
      simp only at ho
      subst ho
      rfl
    have e2 : a.eval (.const (.slice none 0 0)) = .slice none 0 0 := rfl
    have e3 : binOp .eql t (.slice ad rows.length cap) (.slice none 0 0) = (do pure (.bool (← Op.equal t (.slice ad rows.length cap) (.slice none 0 0)))) := rfl
    have e4 : (Op.equal t (.slice ad rows.length cap) (.slice none 0 0)).run P w = .ok ad.isNone w := run_eq_slice_nil 9999 (und_slice ht) ad _ _
    rw [e1, hz, e2]
    simp [eqGuard, e3, e4]
  unfold Oper.wp
  rw [hrun]
  have hpq : ∀ j, Lt nx j → Lt (nx + 1) j := fun j hj => by simp only [Lt] at *; omega
  have hs' := (hs.put hs.heap (fun _ => id) (Step.refl _ _) (.bool ad.isNone) (.bool ad.isNone) o.dst).mono hpq
  refine hnext β _ _ _ (h ad.isNone ?_) hs' (Goes.refl n0 ext β hp w)
  rcases Nat.eq_zero_or_pos rows.length with h0 | h0
  · exact .inl h0
  · refine .inr ?_
    rw [h4 (fun e => by rw [e] at h0; exact Nat.lt_irrefl 0 h0)]
    rfl

end
end Go.AM
end
