/-
  AM, part 37: drawn rows whose new objects' numbers are not known; slices of whole numbers; calls that are handed objects; drawn rows that only read; loops at whose beginning the objects are counted anew;
  objects that are taken for values; operations that look at no cell.
-/
import Derived.Test.YtfbmbjfcgoahfaaAM28
set_option linter.unusedVariables false
namespace Go.AM
open Go

/-- Only objects that were there are looked at. -/
theorem indepB_old {n n0 M m : Nat} {Pr : List Nat} {tc : List (Bool × List Nat)} (hm : M ≤ m) (hn : m ≤ n0) (h : indepB n M Pr tc = true) (ho : (tc.all fun e => e.2.all fun j => decide (j < M)) = true) : indepB n n0 Pr tc = true := by
  refine indepB_shift hm hn h ?_
  rw [List.all_eq_true] at ho
  refine (List.map_congr_left (g := id) fun e he => ?_).trans (List.map_id _)
  have := ho e he
  rw [List.all_eq_true] at this
  refine Prod.ext rfl ?_
  refine (List.map_congr_left (g := id) fun j hj => ?_).trans (List.map_id _)
  have := this j hj
  simp only [decide_eq_true_eq] at this
  simp [this]

end Go.AM

namespace Go.AM
open Go

/-- The rows of whole numbers. -/
def ri (xs : List Int) : List (List AVal) := xs.map fun x => [.int .i64 x]

theorem ri_length (xs : List Int) : (ri xs).length = xs.length := by simp [ri]
theorem ri_get {xs : List Int} {i : Nat} (h : i < xs.length) : (ri xs)[i]? = some [.int .i64 (xs.getD i 0)] := by
  simp [ri, List.getElem?_eq_getElem h, List.getD_eq_getElem?_getD]
theorem ri_all (xs : List Int) : (∀ r, r ∈ ri xs → r.length = 1) = True := by simp [ri]
theorem ri_set (xs : List Int) (i : Nat) (v : Int) : (ri xs).set i [.int .i64 v] = ri (xs.set i v) := by simp [ri, List.map_set]
theorem ri_append (xs ys : List Int) : ri xs ++ ri ys = ri (xs ++ ys) := by simp [ri]
theorem ri_snoc (xs : List Int) (v : Int) : ri xs ++ [[.int .i64 v]] = ri (xs ++ [v]) := by simp [ri]
theorem ri_drop (xs : List Int) (n : Nat) : (ri xs).drop n = ri (xs.drop n) := by simp [ri]
theorem ri_take (xs : List Int) (n : Nat) : (ri xs).take n = ri (xs.take n) := by simp [ri]
theorem ri_fz (xs : List Int) (lim : Option Nat) : Fz (.sl (ri xs) lim) := .sl _ _ fun r hr x hx => by
  simp only [ri, List.mem_map] at hr
  obtain ⟨a, _, rfl⟩ := hr
  simp at hx
  subst hx
  exact .int _ _
theorem ri_fz_iff (xs : List Int) (lim : Option Nat) : Fz (.sl (ri xs) lim) ↔ True := ⟨fun _ => trivial, fun _ => ri_fz xs lim⟩
theorem ri_of {rows : List (List AVal)} (h : ∀ r, r ∈ rows → ∃ n, r = [.int .i64 n] ∧ (Lit.int .i64 n).wf = true) : ∃ xs, rows = ri xs ∧ ∀ x, x ∈ xs → -9223372036854775808 ≤ x ∧ x < 9223372036854775808 := by
  induction rows with
  | nil => exact ⟨[], rfl, by simp⟩
  | cons r rows ih =>
    obtain ⟨xs, h1, h2⟩ := ih fun r hr => h r (by simp [hr])
    obtain ⟨n, h3, h4⟩ := h r (by simp)
    refine ⟨n :: xs, by rw [h1, h3]; rfl, fun x hx => ?_⟩
    rcases List.mem_cons.1 hx with rfl | hx
    · exact wf_i64 h4
    · exact h2 x hx

theorem shp_ints {P : Program} {m : Nat} {t e : TypeId} {x : AVal} (ht : P.underlying t = some (.slice e)) (he : P.underlying e = some (.int .i64)) (hc : (P.cellsOf e == 0) = false) (h : Shp P m t [x]) :
    ∃ xs lim, x = .sl (ri xs) lim ∧ xs.length ≤ maxLen ∧ ∀ x, x ∈ xs → -9223372036854775808 ≤ x ∧ x < 9223372036854775808 := by
  cases m with
  | zero => exact h.elim
  | succ m =>
    simp only [Shp, ht] at h
    rcases h with h | ⟨rows, lim, h1, h2, h3⟩
    · simp [h] at hc
    · injection h1 with h1
      have : ∀ r, r ∈ rows → ∃ n, r = [.int .i64 n] ∧ (Lit.int .i64 n).wf = true := fun r hr => by
        have := h3 r hr
        cases m with
        | zero => exact this.elim
        | succ m => simpa only [Shp, he] using this
      obtain ⟨xs, h4, h5⟩ := ri_of this
      exact ⟨xs, lim, by rw [h1, h4], by rw [h4, ri_length] at h2; exact h2, h5⟩

/-- The objects that are handed on, as they stand. -/
def FrzL (h h2 : Heap) : List AVal → List AVal → Prop
  | [], [] => True
  | x :: xs, y :: ys => Frz h (fun id => lk h2 id = none) x y ∧ FrzL h h2 xs ys
  | _, _ => False

theorem FrzL.get {h h2 : Heap} : ∀ {xs ys : List AVal}, FrzL h h2 xs ys → ys.length = xs.length ∧ ∀ (k : Nat) x y, xs[k]? = some x → ys[k]? = some y → Frz h (fun id => lk h2 id = none) x y
  | [], [], _ => ⟨rfl, fun k x y hx => by simp at hx⟩
  | x :: xs, y :: ys, f => by
    obtain ⟨h1, h2⟩ := FrzL.get f.2
    refine ⟨by simp [h1], fun k a b ha hb => ?_⟩
    cases k with
    | zero => simp at ha hb; subst ha; subst hb; exact f.1
    | succ k => exact h2 k a b (by simpa using ha) (by simpa using hb)
  | [], _ :: _, f => f.elim
  | _ :: _, [], f => f.elim

theorem FrzL.nil {h h2 : Heap} : FrzL h h2 [] [] := trivial
theorem FrzL.keep {h h2 : Heap} {x : AVal} {xs ys : List AVal} (f : FrzL h h2 xs ys) : FrzL h h2 (x :: xs) (x :: ys) := ⟨.refl x, f⟩
theorem FrzL.rows {h h2 : Heap} {id sz base len : Nat} {ex : Bool} {c esz : Nat} {rows rows' : List (List AVal)} {xs ys : List AVal} (hl : lk h id = some (.arr esz rows)) (hS : lk h2 id = none) (hsz : rows.length = sz) (hb : base + len ≤ sz) (hr : (rows.drop base).take len = rows')
    (f : FrzL h h2 xs ys) : FrzL h h2 (.ref id sz base len ex c :: xs) (.sl rows' none :: ys) := by
  subst hr
  exact ⟨Frz.ref0 hS hl hsz hb, f⟩

section
variable {fl : Bool} {P : Program} {n0 : Nat} {all : Array Oper} {K : St → Prop}

/-- A call that is handed objects; those that may still be seen behind it are given away. -/
theorem AO_callGE {o : Oper} {rest : List Oper} {i nx nx' : Nat} {tm tm' : List AVal} {hp hp' : Heap} {c : Call} {g : FuncId} {args args' : List AVal} {r : AVal} (hg : guardA all tm o = some true) (ho : o.op = .call c) (ht : target tm c = some (g, args))
    (hc : PCall P g args' (· = r)) (hh : ∀ id ob, lk hp' id = some ob → lk hp id = some ob) (hf : FrzL hp hp' args args')
    (htm : putT tm o.dst r = tm') (hn : nx + 1 = nx') (h : AO P n0 all rest (i + 1) K ⟨tm', hp', nx'⟩) : AO P n0 all (o :: rest) i K ⟨tm, hp, nx⟩ := by
  subst htm
  subst hn
  refine AO_call hg ho ht hc hf.get.1 hh hf.get.2 ?_
  rintro r' rfl
  exact h

/-- A call that is handed objects, and hands back numbers, texts, truths. -/
theorem AO_callNE {o : Oper} {rest : List Oper} {i nx nx' : Nat} {tm tm' : List AVal} {hp : Heap} {c : Call} {g : FuncId} {args args' : List AVal} {r : AVal} (hg : guardA all tm o = some true) (ho : o.op = .call c) (ht : target tm c = some (g, args))
    (hc : PCall P g args' (· = r)) (hf : FrzL hp [] args args') (hfl : Flat r)
    (htm : putT tm o.dst r = tm') (hn : nx + 1 = nx') (h : AO P n0 all rest (i + 1) K ⟨tm', hp, nx'⟩) : AO P n0 all (o :: rest) i K ⟨tm, hp, nx⟩ := by
  refine AO_callFE hg ho ht hc hf.get.1 (fun k x y hx hy => Frz.widen (fun _ _ => trivial) (hf.get.2 k x y hx hy)) hfl htm hn h

end

theorem no_lk (id : Nat) (ob : Ob) (h : Heap) : lk [] id = some ob → lk h id = some ob := fun e => by simp [lk] at e

end Go.AM

namespace Go.AM
open Go

/-- Nothing is written, and only what was there is looked at. -/
def allOld (n0 : Nat) : List (Bool × List Nat) → Prop
  | [] => True
  | e :: r => e.1 = false ∧ (∀ j, j ∈ e.2 → j < n0) ∧ allOld n0 r

theorem allOld_mem {n0 : Nat} : ∀ {tc : List (Bool × List Nat)}, allOld n0 tc → ∀ e, e ∈ tc → e.1 = false ∧ ∀ j, j ∈ e.2 → j < n0
  | [], _, e, he => by cases he
  | a :: r, h, e, he => by
    rcases List.mem_cons.1 he with rfl | he
    · exact ⟨h.1, h.2.1⟩
    · exact allOld_mem h.2.2 e he

theorem indepB_reads {n n0 : Nat} {Pr : List Nat} {tc : List (Bool × List Nat)} (h : allOld n0 tc) : indepB n n0 Pr tc = true := by
  unfold indepB
  rw [List.all_eq_true]
  intro i _
  rw [List.all_eq_true]
  intro k _
  have hg : ∀ i : Nat, (tc.getD i (false, [])).1 = false ∧ ∀ j, j ∈ (tc.getD i (false, [])).2 → j < n0 := fun i => by
    rw [List.getD_eq_getElem?_getD]
    cases hi : tc[i]? with
    | none => exact ⟨rfl, fun j hj => by cases hj⟩
    | some e => exact allOld_mem h e (List.mem_of_getElem? hi)
  simp only [Bool.or_eq_true, Bool.and_eq_true, Bool.not_eq_true', beq_iff_eq]
  refine .inr ⟨.inl (hg i).1, ?_⟩
  rw [Bool.eq_false_iff]
  intro hc
  rw [List.contains_iff_mem] at hc
  have := (hg k).2 _ hc
  omega

theorem allOld_nil {n0 : Nat} : allOld n0 [] := trivial
theorem allOld_cons {n0 : Nat} {b : Bool} {l : List Nat} {r : List (Bool × List Nat)} (hb : b = false) (hl : ∀ j, j ∈ l → j < n0) (h : allOld n0 r) : allOld n0 ((b, l) :: r) := ⟨hb, hl, h⟩

end Go.AM

namespace Go.AM
open Go

theorem lk_head (id : Nat) (o : Ob) (h : Heap) : lk ((id, o) :: h) id = some o := by simp [lk]

theorem FrzL.whole {h h2 : Heap} {id n : Nat} {ex : Bool} {c esz : Nat} {rows : List (List AVal)} {xs ys : List AVal} (hl : lk h id = some (.arr esz rows)) (hS : lk h2 id = none) (hn : rows.length = n)
    (f : FrzL h h2 xs ys) : FrzL h h2 (.ref id n 0 n ex c :: xs) (.sl rows none :: ys) := by
  refine FrzL.rows hl hS hn (by omega) ?_ f
  rw [List.drop_zero, List.take_of_length_le (by omega)]

end Go.AM

namespace Go.AM
open Go

/-- The slot that is only handed on. -/
def mvT : Op → Option Tmp
  | .move (.tmp t) => some t
  | .assign (.tmp t) => some t
  | _ => none

theorem astep_mv {P : Program} {tm : List AVal} {hp : Heap} {nx : Nat} {o : Oper} {t : Tmp} {y : AVal} (hop : mvT o.op = some t) (hy : tm[t]? = some y) : astep P tm hp nx o = some (y, hp) := by
  obtain ⟨dst, op, type, pos, after, guard⟩ := o
  have he : ev tm (.tmp t) = y := by simp only [ev, List.getD_eq_getElem?_getD, hy, Option.getD_some]
  cases op <;> simp only [mvT] at hop <;> try (cases hop; done)
  · rename_i x
    cases x <;> simp at hop
    subst hop
    simp only [astep, he]
  · rename_i x
    cases x <;> simp at hop
    subst hop
    simp only [astep, he]

section
variable {fl : Bool} {P : Program} {n0 : Nat} {all : Array Oper} {K : St → Prop}

theorem AO_mvE {o : Oper} {rest : List Oper} {i nx nx' : Nat} {tm tm' : List AVal} {hp : Heap} {t : Tmp} {y : AVal} (hop : mvT o.op = some t) (hg : guardA all tm o = some true) (hy : tm[t]? = some y)
    (ht : putT tm o.dst y = tm') (hn : nx + 1 = nx') (h : AO P n0 all rest (i + 1) K ⟨tm', hp, nx'⟩) : AO P n0 all (o :: rest) i K ⟨tm, hp, nx⟩ := AO_stepE hg (astep_mv hop hy) ht hn h

theorem D_mvE {nx : Nat} {o : Oper} {rest : List Oper} {i i' : Nat} {tm tm' : List AVal} {hp : Heap} {tc tc' : List (Bool × List Nat)} {t : Tmp} {y : AVal} (hop : mvT o.op = some t) (hg : guardA all tm o = some true) (hy : tm[t]? = some y)
    (ht : putT tm o.dst y = tm') (hn : i + 1 = i') (hc : tc ++ [(isWriter o, touched tm o)] = tc') (h : DW fl P all nx K rest i' tm' hp tc') : DW fl P all nx K (o :: rest) i tm hp tc := D_stepE hg (astep_mv hop hy) ht hn hc h

end
end Go.AM

set_option linter.unusedVariables false
namespace Go.AM
open Go

/-- Neither writes nor makes an object. -/
def rdOp (o : Oper) : Bool :=
  match o.op with
  | .store .. => false
  | .alloc .. => false
  | .box .. => false
  | .buildSlice .. => false
  | .makeSlice .. => false
  | .makeMap .. => false
  | .mapUpdate .. => false
  | .insert .. => false
  | .mapEntry .. => false
  | .entryStore .. => false
  | .call c => match c.callee with | .builtin .append => false | .builtin .delete => false | _ => true
  | _ => true

theorem allOld_append {n0 : Nat} : ∀ {tc : List (Bool × List Nat)} {l : List Nat}, allOld n0 tc → (∀ j, j ∈ l → j < n0) → allOld n0 (tc ++ [(false, l)])
  | [], _, _, hl => ⟨rfl, hl, trivial⟩
  | _ :: _, _, h, hl => ⟨h.1, h.2.1, allOld_append h.2.2 hl⟩

/-- What is left of a drawn row that only reads. -/
def DV (P : Program) (all : Array Oper) (nx : Nat) (K : St → Prop) (rest : List Oper) (i : Nat) (tm : List AVal) (h : Heap) : Prop := ∀ tc, allOld nx tc → DW true P all nx K rest i tm h tc

theorem touched_nil {tm : List AVal} {o : Oper} {nx : Nat} (e : touched tm o = []) (j : Nat) (hj : j ∈ touched tm o) : j < nx := by rw [e] at hj; cases hj
theorem touched_one {tm : List AVal} {o : Oper} {nx id : Nat} (e : touched tm o = [id]) (h : id < nx) (j : Nat) (hj : j ∈ touched tm o) : j < nx := by
  rw [e] at hj
  simp at hj
  omega

section
variable {fl : Bool} {P : Program} {n0 : Nat} {all : Array Oper} {K : St → Prop}

theorem W_drwR {Q : Exit → St → Prop} {tm : List AVal} {hp : Heap} {nx : Nat} {k : List It} {id : Nat} {ops : List Oper} (hr : ops.all rdOp = true) (hm : P.follows .mixedOrders = true) (hc : chk ops.toArray (preds ops.toArray) = true)
    (h : ∀ K : St → Prop, (∀ s', unw P n0 k Q .normal s' → K s') → DV P ops.toArray nx K ops 0 tm hp) : AWP P n0 (.region id ops.toArray true) (unw P n0 k Q) ⟨tm, hp, nx⟩ :=
  W_drw hm hc fun K hK => h K hK [] trivial

theorem V_stepE {nx : Nat} {o : Oper} {rest : List Oper} {i i' : Nat} {tm tm' : List AVal} {hp hp' : Heap} {y : AVal} (hg : guardA all tm o = some true) (hw : isWriter o = false) (hl : ∀ j, j ∈ touched tm o → j < nx) (hs : astep P tm hp (nx + i) o = some (y, hp'))
    (ht : putT tm o.dst y = tm') (hn : i + 1 = i') (h : DV P all nx K rest i' tm' hp') : DV P all nx K (o :: rest) i tm hp := fun tc htc =>
  D_stepE hg hs ht hn rfl (h _ (by rw [hw]; exact allOld_append htc hl))

theorem V_mvE {nx : Nat} {o : Oper} {rest : List Oper} {i i' : Nat} {tm tm' : List AVal} {hp : Heap} {t : Tmp} {y : AVal} (hop : mvT o.op = some t) (hg : guardA all tm o = some true) (hw : isWriter o = false) (hy : tm[t]? = some y) (hl : ∀ j, j ∈ touched tm o → j < nx)
    (ht : putT tm o.dst y = tm') (hn : i + 1 = i') (h : DV P all nx K rest i' tm' hp) : DV P all nx K (o :: rest) i tm hp := V_stepE hg hw hl (astep_mv hop hy) ht hn h

theorem V_skipE {nx : Nat} {o : Oper} {rest : List Oper} {i i' : Nat} {tm tm' : List AVal} {hp : Heap} (hg : guardA all tm o = some false)
    (ht : putT tm o.dst (.tuple []) = tm') (hn : i + 1 = i') (h : DV P all nx K rest i' tm' hp) : DV P all nx K (o :: rest) i tm hp := fun tc htc =>
  D_skipE hg ht hn rfl (h _ (allOld_append htc fun j hj => by cases hj))

theorem V_callE {nx : Nat} {o : Oper} {rest : List Oper} {i i' : Nat} {tm tm' : List AVal} {hp : Heap} {c : Call} {g : FuncId} {args : List AVal} {r : AVal} (hg : guardA all tm o = some true) (ho : o.op = .call c) (ht : target tm c = some (g, args))
    (hp' : PCall P g args (· = r)) (htm : putT tm o.dst r = tm') (hn : i + 1 = i') (h : DV P all nx K rest i' tm' hp) : DV P all nx K (o :: rest) i tm hp := fun tc htc =>
  D_callE hg ho ht hp' htm hn rfl (h _ (allOld_append htc fun j hj => by cases hj))

theorem V_split {nx : Nat} {rest : List Oper} {i : Nat} {tm t1 t2 : List AVal} {hp : Heap} {o : Oper} {j : Nat} {want : Bool} {d : Tmp} {b : Bool} (hg : o.guard = some (j, want)) (hd : (all[j]?).bind (·.dst) = some d) (hb : tm[d]? = some (.bool b))
    (e1 : tm.set d (.bool true) = t1) (e2 : tm.set d (.bool false) = t2) (h1 : b = true → DV P all nx K (o :: rest) i t1 hp) (h2 : b = false → DV P all nx K (o :: rest) i t2 hp) : DV P all nx K (o :: rest) i tm hp := fun tc htc =>
  D_split hg hd hb e1 e2 (fun h => h1 h tc htc) (fun h => h2 h tc htc)

theorem V_end {nx n : Nat} {i : Nat} {tm : List AVal} {h : Heap} (hi : i = all.size) (hn : nx + i = n) (hk : K ⟨tm, h, n⟩) : DV P all nx K [] i tm h := fun tc htc => D_end hi (indepB_reads htc) hn hk

end
end Go.AM

set_option linter.unusedVariables false
namespace Go.AM
open Go

def nmL (n : Nat) : List AVal → Prop
  | [] => True
  | x :: xs => Nm (Lt n) x ∧ nmL n xs

def nmH (n : Nat) : Heap → Prop
  | [] => True
  | e :: h => e.1 < n ∧ e.2.nm (Lt n) ∧ nmH n h

theorem nmL_mem {n : Nat} : ∀ {xs : List AVal}, nmL n xs → ∀ x, x ∈ xs → Nm (Lt n) x
  | [], _, x, hx => by cases hx
  | y :: ys, h, x, hx => by
    rcases List.mem_cons.1 hx with rfl | hx
    · exact h.1
    · exact nmL_mem h.2 x hx

theorem nmH_lk {n : Nat} : ∀ {h : Heap}, nmH n h → ∀ id o, lk h id = some o → id < n ∧ o.nm (Lt n)
  | [], _, id, o, e => by simp [lk] at e
  | (i, ob) :: h, hh, id, o, e => by
    simp only [lk] at e
    split at e
    · rename_i he
      injection e with e
      subst he
      subst e
      exact ⟨hh.1, hh.2.1⟩
    · exact nmH_lk hh.2.2 id o e

theorem nm_junk (p : Nat → Prop) : Nm p .junk ↔ True := ⟨fun _ => trivial, fun _ => .junk⟩
theorem nm_int (p : Nat → Prop) (k : IntKind) (n : Int) : Nm p (.int k n) ↔ True := ⟨fun _ => trivial, fun _ => .int k n⟩
theorem nm_bool (p : Nat → Prop) (b : Bool) : Nm p (.bool b) ↔ True := ⟨fun _ => trivial, fun _ => .bool b⟩
theorem nm_str (p : Nat → Prop) (s : ByteArray) : Nm p (.str s) ↔ True := ⟨fun _ => trivial, fun _ => .str s⟩
theorem nm_ref (n id sz base len : Nat) (ex : Bool) (c : Nat) : Nm (Lt n) (.ref id sz base len ex c) ↔ id < n := ⟨fun h => by cases h with | ref _ _ _ _ _ _ h => exact h, fun h => .ref _ _ _ _ _ _ h⟩
theorem nm_ptr (n id sz row col : Nat) : Nm (Lt n) (.ptr id sz row col) ↔ id < n := ⟨fun h => by cases h with | ptr _ _ _ _ h => exact h, fun h => .ptr _ _ _ _ h⟩
theorem nm_ri (p : Nat → Prop) (xs : List Int) (lim : Option Nat) : Nm p (.sl (ri xs) lim) ↔ True := ⟨fun _ => trivial, fun _ => Fz.nm (ri_fz xs lim) p⟩
theorem nm_nil (p : Nat → Prop) (lim : Option Nat) : Nm p (.sl [] lim) ↔ True := ⟨fun _ => trivial, fun _ => .sl _ _ (by simp)⟩
theorem nm_agg (p : Nat → Prop) (xs : List AVal) : Nm p (.agg xs) ↔ ∀ x, x ∈ xs → Nm p x := ⟨fun h => by cases h with | agg _ h => exact h, fun h => .agg _ h⟩
theorem nm_ori (p : Nat → Prop) (esz : Nat) (xs : List Int) : (Ob.arr esz (ri xs)).nm p ↔ True := ⟨fun _ => trivial, fun _ r hr x hx => by
  simp only [ri, List.mem_map] at hr
  obtain ⟨a, _, rfl⟩ := hr
  simp at hx
  subst hx
  exact .int _ _⟩
theorem nm_oarr (p : Nat → Prop) (esz : Nat) (rows : List (List AVal)) : (Ob.arr esz rows).nm p ↔ ∀ r, r ∈ rows → ∀ x, x ∈ r → Nm p x := Iff.rfl

theorem weak_mk {n0 nx nx' : Nat} {tm tm' : List AVal} {h h' : Heap} (d : dropL tm tm') (hh : ∀ id o, lk h' id = some o → lk h id = some o) (nm : nmL nx' tm') (nmh : nmH nx' h') (low : n0 ≤ nx') : Weak n0 ⟨tm, h, nx⟩ ⟨tm', h', nx'⟩ :=
  ⟨dropL_len d, dropL_at d, hh, nmL_mem nm, nmH_lk nmh, low⟩

theorem lk_same (h : Heap) (id : Nat) (o : Ob) (e : lk h id = some o) : lk h id = some o := e

theorem sub_keep {i : Nat} {ob : Ob} {h h' : Heap} (hh : ∀ id o, lk h' id = some o → lk h id = some o) (id : Nat) (o : Ob) (e : lk ((i, ob) :: h') id = some o) : lk ((i, ob) :: h) id = some o := by
  simp only [lk] at e ⊢
  split at e
  · rename_i hi; rw [if_pos hi]; exact e
  · rename_i hi; rw [if_neg hi]; exact hh id o e
theorem sub_drop {i : Nat} {ob : Ob} {h h' : Heap} (hh : ∀ id o, lk h' id = some o → lk h id = some o) (hn : lk h' i = none) (id : Nat) (o : Ob) (e : lk h' id = some o) : lk ((i, ob) :: h) id = some o := by
  simp only [lk]
  split
  · rename_i hi; subst hi; rw [hn] at e; cases e
  · exact hh id o e

def forW (n0 id : Nat) (J : St → Prop) (R : Exit → St → Prop) : Exit → St → Prop
  | .exit i, s => if i = id then ∃ s', J s' ∧ Weak n0 s s' else R (.exit i) s
  | e, s => R e s

section
variable {fl : Bool} {P : Program} {n0 : Nat} {Q : Exit → St → Prop} {s : St} {k : List It}

theorem W_forW {c : Code} {id : Nat} (I : Nat → St → Prop) (J : St → Prop) (n : Nat) (s' : St) (h0 : I n s') (hd : Weak n0 s s') (after : ∀ s, J s → unw P n0 k Q .normal s)
    (round : ∀ n s, I n s → AWP P n0 c (unw P n0 [] (thenQ (fun s' => ∃ m, m < n ∧ ∃ s'', I m s'' ∧ Weak n0 s' s'') (forW n0 id J (unw P n0 k Q)))) s) : AWP P n0 (.loop c) (unw P n0 (.blk id :: k) Q) s := by
  refine W_loop I n s' h0 hd fun m s1 hI => ?_
  intro ext β a w i
  refine wp_mono (round m s1 hI ext β a w i) ?_
  rintro e a2 w2 ⟨β2, s2, q, i2, g2⟩
  cases e with
  | normal => exact ⟨β2, s2, q, i2, g2⟩
  | exit j =>
    change forW n0 id J (unw P n0 k Q) (.exit j) s2 at q
    simp only [forW] at q
    by_cases hj : j = id
    · rw [if_pos hj] at q
      obtain ⟨s3, hJ, hd3⟩ := q
      obtain ⟨i3, g3⟩ := i2.weak hd3
      subst hj
      exact ⟨β2, s3, E_blk (after s3 hJ), i3, g2.trans g3⟩
    · rw [if_neg hj] at q
      exact ⟨β2, s2, E_blk_ne hj q, i2, g2⟩
  | goto l => exact ⟨β2, s2, q, i2, g2⟩
  | ret => exact ⟨β2, s2, q, i2, g2⟩
  | panic ch => exact ⟨β2, s2, q, i2, g2⟩
  | outgrown => exact ⟨β2, s2, q, i2, g2⟩

theorem FW_exit {F : St → Prop} {id : Nat} {J : St → Prop} {R : Exit → St → Prop} (h : ∃ s', J s' ∧ Weak n0 s s') : unw P n0 [] (thenQ F (forW n0 id J R)) (.exit id) s := by
  show forW n0 id J R (.exit id) s
  simp only [forW, if_true]
  exact h
theorem FW_ret {F : St → Prop} {id : Nat} {J : St → Prop} (h : unw P n0 k Q .ret s) : unw P n0 [] (thenQ F (forW n0 id J (unw P n0 k Q))) .ret s := h
theorem FW_out {F : St → Prop} {id i : Nat} {J : St → Prop} (hi : ¬ i = id) (h : unw P n0 k Q (.exit i) s) : unw P n0 [] (thenQ F (forW n0 id J (unw P n0 k Q))) (.exit i) s := by
  show forW n0 id J _ (.exit i) s
  simp only [forW, if_neg hi]
  exact h

/-- A state is given up for one that says less, and counts its objects anew. -/
theorem W_weak {c : Code} (s' : St) (hd : Weak n0 s s') (h : AWP P n0 c (unw P n0 k Q) s') : AWP P n0 c (unw P n0 k Q) s := AWP_weak s' hd h

end
end Go.AM

set_option linter.unusedVariables false
namespace Go.AM
open Go

/-- Each slot stays, or is given up, or what it names stands as it is from now on. -/
def FzL (h h2 : Heap) : List AVal → List AVal → Prop
  | [], [] => True
  | x :: xs, y :: ys => (y = x ∨ y = .junk ∨ (Frz h (fun id => lk h2 id = none) x y ∧ Fz y)) ∧ FzL h h2 xs ys
  | _, _ => False

theorem FzL.get {h h2 : Heap} : ∀ {xs ys : List AVal}, FzL h h2 xs ys → ys.length = xs.length ∧ ∀ (k : Nat) x y, xs[k]? = some x → ys[k]? = some y → y = x ∨ y = .junk ∨ (Frz h (fun id => lk h2 id = none) x y ∧ Fz y)
  | [], [], _ => ⟨rfl, fun k x y hx => by simp at hx⟩
  | x :: xs, y :: ys, f => by
    obtain ⟨h1, h2⟩ := FzL.get f.2
    refine ⟨by simp [h1], fun k a b ha hb => ?_⟩
    cases k with
    | zero => simp at ha hb; subst ha; subst hb; exact f.1
    | succ k => exact h2 k a b (by simpa using ha) (by simpa using hb)
  | [], _ :: _, f => f.elim
  | _ :: _, [], f => f.elim

theorem FzL.nil {h h2 : Heap} : FzL h h2 [] [] := trivial
theorem FzL.keep {h h2 : Heap} {x : AVal} {xs ys : List AVal} (f : FzL h h2 xs ys) : FzL h h2 (x :: xs) (x :: ys) := ⟨.inl rfl, f⟩
theorem FzL.junk {h h2 : Heap} {x : AVal} {xs ys : List AVal} (f : FzL h h2 xs ys) : FzL h h2 (x :: xs) (.junk :: ys) := ⟨.inr (.inl rfl), f⟩
theorem FzL.whole {h h2 : Heap} {id n : Nat} {ex : Bool} {c esz : Nat} {rows : List (List AVal)} {xs ys : List AVal} (hl : lk h id = some (.arr esz rows)) (hS : lk h2 id = none) (hn : rows.length = n) (hz : Fz (.sl rows none))
    (f : FzL h h2 xs ys) : FzL h h2 (.ref id n 0 n ex c :: xs) (.sl rows none :: ys) := by
  refine ⟨.inr (.inr ⟨?_, hz⟩), f⟩
  have := Frz.ref0 (h := h) (S := fun id => lk h2 id = none) (id := id) (sz := n) (base := 0) (len := n) (ex := ex) (c := c) hS hl hn (by omega)
  rw [List.drop_zero, List.take_of_length_le (by omega)] at this
  exact this

theorem fz_sl_iff (rows : List (List AVal)) (lim : Option Nat) : Fz (.sl rows lim) ↔ ∀ r, r ∈ rows → ∀ x, x ∈ r → Fz x := ⟨fun h => by cases h with | sl _ _ h => exact h, fun h => .sl _ _ h⟩

theorem SIn.freeze {n0 : Nat} {ext : Nat → Prop} {β : Nat → Option Nat} {tm tm' : List AVal} {h h2 : Heap} {nx : Nat} {a : Act} {w : World} (i : SIn n0 ext β ⟨tm, h, nx⟩ a w) (hsub : ∀ id ob, lk h2 id = some ob → lk h id = some ob)
    (hf : FzL h h2 tm tm') : SIn n0 ext β ⟨tm', h2, nx⟩ a w ∧ Goes n0 ext β h w β h2 w := by
  obtain ⟨hl, hg⟩ := hf.get
  have hlow : n0 ≤ nx := by
    rcases Nat.lt_or_ge nx n0 with h8 | h8
    · exact absurd (i.low nx h8) (Nat.lt_irrefl _)
    · exact h8
  have hwk : Weak n0 ⟨tm, h, nx⟩ ⟨tm, h2, nx⟩ := ⟨rfl, fun k x hx => .inr hx, hsub, i.nm, fun id ob ho => i.heap.nm id ob (hsub id ob ho), hlow⟩
  obtain ⟨i2, g2⟩ := i.weak hwk
  have hown2 : ∀ b, owns β h2 b → owns β h b := fun b ⟨id, ob, h1, h3⟩ => ⟨id, ob, hsub id ob h1, h3⟩
  have st : Step (fun _ => False) (cx (fun b => ext b ∨ owns β h2 b) (fun _ => none) [] w) (cx ext β h2 w) :=
    ⟨fun b o v h1 h4 => ⟨fun h3 => h1 (Or.inl h3), h4⟩, fun _ _ h => h, fun _ h => h.elim, fun _ h => h.elim⟩
  refine ⟨⟨i2.heap, by rw [i2.size]; exact hl.symm, fun k y v hy hv => ?_, fun y hy => ?_, i2.defers, i2.low⟩, g2⟩
  · have hk : k < tm.length := by rw [← hl]; exact (List.getElem?_eq_some_iff.1 hy).1
    rcases hg k tm[k] y (List.getElem?_eq_getElem hk) hy with rfl | rfl | ⟨hfz, hz⟩
    · exact i2.rel k _ v (List.getElem?_eq_getElem hk) hv
    · exact .junk v
    · have hv1 := i.rel k _ v (List.getElem?_eq_getElem hk) hv
      refine (Frz.rel (ext' := fun b => ext b ∨ owns β h2 b) i.heap (fun b hb => hb.imp (fun h => h) (hown2 b)) (fun id ob b hS hl hb hx => ?_) hfz v hv1).step st hz
      rcases hx with hx | ⟨id', ob', h3, h4⟩
      · exact (i.heap.ext b hx).2 ⟨id, ob, hl, hb⟩
      · have : id = id' := i.heap.inj id id' ob ob' b hl (hsub id' ob' h3) hb h4
        subst this
        rw [hS] at h3; cases h3
  · obtain ⟨k, hk⟩ := List.getElem?_of_mem hy
    have hk' : k < tm.length := by rw [← hl]; exact (List.getElem?_eq_some_iff.1 hk).1
    rcases hg k tm[k] y (List.getElem?_eq_getElem hk') hk with rfl | rfl | ⟨hfz, hz⟩
    · exact i.nm _ (List.getElem_mem hk')
    · exact .junk
    · exact Fz.nm hz _

section
variable {fl : Bool} {P : Program} {n0 : Nat} {all : Array Oper} {K : St → Prop} {Q : Exit → St → Prop} {k : List It}

theorem AO_freeze {rest : List Oper} {i nx : Nat} {tm tm' : List AVal} {h h2 : Heap} (hsub : ∀ id ob, lk h2 id = some ob → lk h id = some ob) (hf : FzL h h2 tm tm') (ha : AO P n0 all rest i K ⟨tm', h2, nx⟩) :
    AO P n0 all rest i K ⟨tm, h, nx⟩ := fun hd ext β a w hs Q hq =>
  let ⟨i2, g2⟩ := SIn.freeze hs hsub hf
  ha hd ext β a w i2 Q fun β' s' a' w' h1 h2 h3 => hq β' s' a' w' h1 h2 (g2.trans h3)

theorem W_freeze {c : Code} {nx : Nat} {tm tm' : List AVal} {h h2 : Heap} (hsub : ∀ id ob, lk h2 id = some ob → lk h id = some ob) (hf : FzL h h2 tm tm') (ha : AWP P n0 c (unw P n0 k Q) ⟨tm', h2, nx⟩) : AWP P n0 c (unw P n0 k Q) ⟨tm, h, nx⟩ := by
  intro ext β a w i
  obtain ⟨i2, g2⟩ := SIn.freeze i hsub hf
  exact wp_mono (ha ext β a w i2) fun _ _ _ p => p.after g2

end
end Go.AM

namespace Go.AM
open Go

attribute [go_sem] true_or or_true true_implies false_implies implies_true and_true true_and if_true if_false ite_true ite_false Bool.false_eq_true Bool.true_eq_false Bool.not_true Bool.not_false beq_self_eq_true decide_true decide_false Nat.min_eq_left Nat.min_eq_right
  bne_self_eq_false beq_true beq_false Int.natCast_nonneg Int.toNat_natCast Nat.zero_add Int.le_refl ri_length ri_all

section
variable {fl : Bool} {P : Program} {all : Array Oper} {K : St → Prop}

/-- An operation that looks at no cell, in a drawn row that makes no object longer. -/
theorem D_adrE {nx : Nat} {o : Oper} {rest : List Oper} {i i' : Nat} {tm tm' : List AVal} {hp hp' : Heap} {tc tc' : List (Bool × List Nat)} {y : AVal} (ha : adrOp o = true) (hna : all.toList.all notApp = true) (hg : guardA all tm o = some true) (hl : ∀ j, j ∈ touched tm o → j < nx)
    (hs : astep P tm hp (nx + i) o = some (y, hp')) (ht : putT tm o.dst y = tm') (hn : i + 1 = i') (hc : tc ++ [(false, [])] = tc') (h : DW true P all nx K rest i' tm' hp tc') : DW true P all nx K (o :: rest) i tm hp tc := by
  subst ht
  subst hn
  subst hc
  exact fun hd => let ⟨ho, hd'⟩ := drop_cons hd; .adr i tm hp tc o y hp' ho hg rfl ha (by rw [← Array.all_toList]; exact hna) hl hs (h hd')

theorem D_admE {nx : Nat} {o : Oper} {rest : List Oper} {i i' : Nat} {tm tm' : List AVal} {hp : Heap} {tc tc' : List (Bool × List Nat)} {t : Tmp} {y : AVal} (hop : mvT o.op = some t) (ha : adrOp o = true) (hna : all.toList.all notApp = true) (hg : guardA all tm o = some true)
    (hl : ∀ j, j ∈ touched tm o → j < nx) (hy : tm[t]? = some y) (ht : putT tm o.dst y = tm') (hn : i + 1 = i') (hc : tc ++ [(false, [])] = tc') (h : DW true P all nx K rest i' tm' hp tc') : DW true P all nx K (o :: rest) i tm hp tc :=
  D_adrE ha hna hg hl (astep_mv hop hy) ht hn hc h

end
end Go.AM
