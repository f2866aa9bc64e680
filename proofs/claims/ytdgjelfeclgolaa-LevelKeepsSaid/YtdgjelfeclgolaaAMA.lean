/-
  AM, merged: 1 2 3 4 5 6 7 8 9.
-/
import Derived.WalkKit
import Derived.Laws.StructEq
import Derived.Laws.CopyRow
import Derived.Deep.AppendSrc

section
namespace Go.AM
open Go

/-- An abstract value. 'sl': a slice that nobody writes into any more, by its rows of cells. 'ref': a slice of an object of the abstract heap. 'ptr': the address of a cell of such an object. 'fp': the address of cells that nobody writes. -/
inductive AVal where
  | junk
  | bool (b : Bool)
  | int (k : IntKind) (n : Int)
  | str (s : ByteArray)
  | nilp
  | sl (rows : List (List AVal)) (lim : Option Nat)
  | ref (id sz base len : Nat) (ex : Bool) (c : Nat)
  | ptr (id sz row col : Nat)
  | fp (cells : List AVal)
  | agg (cells : List AVal)
  | tuple (vs : List AVal)
  | func (fn : Fn) (first captured : List AVal)
  | nilFunc
  | iface (t : TypeId) (v : AVal)
  | nilIface
  | nilmap
  | mapv (id : Nat)
  deriving Inhabited

/-- A map: its entries (key, value, when it was born), and its clock. -/
structure MapA where
  es : List (AVal × AVal × Nat)
  clock : Nat

/-- An object of the abstract heap. -/
inductive Ob where
  | arr (esz : Nat) (rows : List (List AVal))
  | mp (m : MapA)

abbrev Heap := List (Nat × Ob)

def lk : Heap → Nat → Option Ob
  | [], _ => none
  | (i, o) :: h, j => if i = j then some o else lk h j

/-- Only objects are named whose numbers are among some. -/
inductive Nm (p : Nat → Prop) : AVal → Prop
  | junk : Nm p .junk
  | bool (b : Bool) : Nm p (.bool b)
  | int (k : IntKind) (x : Int) : Nm p (.int k x)
  | str (s : ByteArray) : Nm p (.str s)
  | nilp : Nm p .nilp
  | sl (rows : List (List AVal)) (lim : Option Nat) (h : ∀ r, r ∈ rows → ∀ x, x ∈ r → Nm p x) : Nm p (.sl rows lim)
  | ref (id sz base len : Nat) (ex : Bool) (c : Nat) (h : p id) : Nm p (.ref id sz base len ex c)
  | ptr (id sz row col : Nat) (h : p id) : Nm p (.ptr id sz row col)
  | fp (cells : List AVal) (h : ∀ x, x ∈ cells → Nm p x) : Nm p (.fp cells)
  | agg (cells : List AVal) (h : ∀ x, x ∈ cells → Nm p x) : Nm p (.agg cells)
  | tuple (vs : List AVal) (h : ∀ x, x ∈ vs → Nm p x) : Nm p (.tuple vs)
  | func (fn : Fn) (first captured : List AVal) (h : ∀ x, x ∈ first → Nm p x) (h' : ∀ x, x ∈ captured → Nm p x) : Nm p (.func fn first captured)
  | nilFunc : Nm p .nilFunc
  | iface (t : TypeId) (v : AVal) (h : Nm p v) : Nm p (.iface t v)
  | nilIface : Nm p .nilIface
  | nilmap : Nm p .nilmap
  | mapv (id : Nat) (h : p id) : Nm p (.mapv id)

/-- No object is named: nobody will ever write what the value reads. -/
abbrev Fz : AVal → Prop := Nm fun _ => False

theorem Nm.mono {p q : Nat → Prop} (hn : ∀ i, p i → q i) {x : AVal} (h : Nm p x) : Nm q x := by
  induction h with
  | junk => exact .junk
  | bool b => exact .bool b
  | int k x => exact .int k x
  | str s => exact .str s
  | nilp => exact .nilp
  | sl rows lim _ ih => exact .sl rows lim ih
  | ref id sz base len ex c h => exact .ref _ _ _ _ _ _ (hn _ h)
  | ptr id sz row col h => exact .ptr _ _ _ _ (hn _ h)
  | fp cells _ ih => exact .fp cells ih
  | agg cells _ ih => exact .agg cells ih
  | tuple cells _ ih => exact .tuple cells ih
  | func fn a b _ _ ih ih' => exact .func fn a b ih ih'
  | nilFunc => exact .nilFunc
  | iface t v _ ih => exact .iface t v ih
  | nilIface => exact .nilIface
  | nilmap => exact .nilmap
  | mapv id h => exact .mapv _ (hn _ h)

theorem Fz.nm {x : AVal} (h : Fz x) (p : Nat → Prop) : Nm p x := Nm.mono (fun _ h => h.elim) h

/-- What a relation of values looks at: the world, the blocks that may be written, how many rows each object has, and its block. -/
structure Cx where
  w : World
  own : Nat → Prop
  h : Heap
  β : Nat → Option Nat

def Cx.RefAt (c : Cx) (id esz base cap : Nat) (a : Option Addr) : Prop :=
  cap = 0 ∨ ∃ b, c.β id = some b ∧ a = some ⟨b, base * esz, none⟩ ∧ ∃ e n, c.w.shape? b = some (e, n) ∧ (base + cap) * esz ≤ n

inductive VRel (c : Cx) : AVal → Value → Prop
  | junk (v : Value) : VRel c .junk v
  | bool (b : Bool) : VRel c (.bool b) (.bool b)
  | int (k : IntKind) (n : Int) : VRel c (.int k n) (.int k n)
  | str (s : ByteArray) : VRel c (.str s) (.string s)
  | nilp : VRel c .nilp (.pointer none)
  | sl (rows : List (List AVal)) (lim : Option Nat) (a : Option Addr) (cap esz blk off : Nat) (vals : Nat → Nat → Value)
      (hcap : rows.length ≤ cap) (hlim : ∀ l, lim = some l → cap = l) (hrow : ∀ r, r ∈ rows → r.length = esz)
      (ha : rows ≠ [] → a = some ⟨blk, off, none⟩)
      (hcell : ∀ (i : Nat) r (j : Nat) x, rows[i]? = some r → r[j]? = some x → ¬ c.own blk ∧ c.w.cell? ⟨blk, off + (i * esz + j), none⟩ = some (vals i j) ∧ (vals i j).oneCell' = true)
      (hrel : ∀ (i : Nat) r (j : Nat) x, rows[i]? = some r → r[j]? = some x → VRel c x (vals i j)) : VRel c (.sl rows lim) (.slice a rows.length cap)
  | ref (id sz base len : Nat) (ex : Bool) (c0 : Nat) (a : Option Addr) (cap : Nat)
      (hcap : len ≤ cap) (hlo : c0 ≤ cap) (hex : ex = true → cap = c0)
      (hok : ∀ esz rows, lk c.h id = some (.arr esz rows) → sz ≤ rows.length ∧ (sz = rows.length → base + len ≤ sz ∧ c.RefAt id esz base cap a)) :
      VRel c (.ref id sz base len ex c0) (.slice a len cap)
  | ptr (id sz row col : Nat) (ad : Addr)
      (hok : ∀ esz rows, lk c.h id = some (.arr esz rows) → sz ≤ rows.length ∧ (sz = rows.length → ∃ b, c.β id = some b ∧ ad = ⟨b, row * esz + col, none⟩)) :
      VRel c (.ptr id sz row col) (.pointer (some ad))
  | fp (cells : List AVal) (blk off : Nat) (vals : Nat → Value)
      (hcell : ∀ (j : Nat) x, cells[j]? = some x → ¬ c.own blk ∧ c.w.cell? ⟨blk, off + j, none⟩ = some (vals j) ∧ (vals j).oneCell' = true)
      (hrel : ∀ (j : Nat) x, cells[j]? = some x → VRel c x (vals j)) : VRel c (.fp cells) (.pointer (some ⟨blk, off, none⟩))
  | agg (cells : List AVal) (vs : Array Value) (hlen : vs.size = cells.length) (hone : ∀ (i : Nat) v, vs[i]? = some v → v.oneCell' = true) (hrel : ∀ (i : Nat) x v, cells[i]? = some x → vs[i]? = some v → VRel c x v) : VRel c (.agg cells) (.agg vs)
  | tuple (cells : List AVal) (vs : Array Value) (hlen : vs.size = cells.length) (hrel : ∀ (i : Nat) x v, cells[i]? = some x → vs[i]? = some v → VRel c x v) : VRel c (.tuple cells) (.tuple vs)
  | func (fn : Fn) (first captured : List AVal) (vs us : Array Value) (hlen : vs.size = first.length) (hlen' : us.size = captured.length)
      (hrel : ∀ (i : Nat) x v, first[i]? = some x → vs[i]? = some v → VRel c x v) (hrel' : ∀ (i : Nat) x v, captured[i]? = some x → us[i]? = some v → VRel c x v) :
      VRel c (.func fn first captured) (.func fn vs us)
  | nilFunc : VRel c .nilFunc .nilFunc
  | iface (t : TypeId) (x : AVal) (v : Value) (h : VRel c x v) : VRel c (.iface t x) (.iface t v)
  | nilIface : VRel c .nilIface .nilIface
  | nilmap : VRel c .nilmap (.map none)
  | mapv (id r : Nat) (hok : ∀ es, lk c.h id = some (.mp es) → c.β id = some r) : VRel c (.mapv id) (.map (some r))

/-- From one context to another one: what is not written stays, and of some objects those that are still there have their block. -/
structure Step (p : Nat → Prop) (c d : Cx) : Prop where
  cell : ∀ b o v, ¬ c.own b → c.w.cell? ⟨b, o, none⟩ = some v → ¬ d.own b ∧ d.w.cell? ⟨b, o, none⟩ = some v
  shape : ∀ b x, c.w.shape? b = some x → d.w.shape? b = some x
  arr : ∀ id, p id → ∀ esz rows, lk d.h id = some (.arr esz rows) → ∃ rows', lk c.h id = some (.arr esz rows') ∧ rows'.length ≤ rows.length ∧ (rows'.length = rows.length → d.β id = c.β id)
  mp : ∀ id, p id → ∀ es, lk d.h id = some (.mp es) → ∃ es', lk c.h id = some (.mp es') ∧ d.β id = c.β id

theorem Cx.RefAt.step {p : Nat → Prop} {c d : Cx} (s : Step p c d) {id esz base cap : Nat} {a : Option Addr} (hβ : d.β id = c.β id) (h : c.RefAt id esz base cap a) : d.RefAt id esz base cap a := by
  rcases h with h | ⟨b, hb, ha, e, m, h2, h3⟩
  · exact .inl h
  · exact .inr ⟨b, hβ.trans hb, ha, e, m, s.shape _ _ h2, h3⟩

theorem VRel.step {p : Nat → Prop} {c d : Cx} (s : Step p c d) {x : AVal} {v : Value} (h : VRel c x v) : Nm p x → VRel d x v := by
  induction h with
  | junk v => exact fun _ => .junk v
  | bool b => exact fun _ => .bool b
  | int k n => exact fun _ => .int k n
  | str s => exact fun _ => .str s
  | nilp => exact fun _ => .nilp
  | sl rows lim a cap esz blk off vals hcap hlim hrow ha hcell hrel ih =>
    intro hb
    cases hb with | sl _ _ hb =>
    exact .sl rows lim a cap esz blk off vals hcap hlim hrow ha
      (fun i r j x h1 h2 => let ⟨e1, e2⟩ := s.cell _ _ _ (hcell i r j x h1 h2).1 (hcell i r j x h1 h2).2.1; ⟨e1, e2, (hcell i r j x h1 h2).2.2⟩)
      (fun i r j x h1 h2 => ih i r j x h1 h2 (hb r (List.mem_of_getElem? h1) x (List.mem_of_getElem? h2)))
  | ref id sz base len ex c0 a cap hcap hlo hex hok =>
    intro hb
    cases hb with | ref _ _ _ _ _ _ hid =>
    refine .ref id sz base len ex c0 a cap hcap hlo hex fun esz rows hr => ?_
    obtain ⟨rows', hr', hle, heq⟩ := s.arr id hid esz rows hr
    obtain ⟨h1, h2⟩ := hok esz rows' hr'
    refine ⟨Nat.le_trans h1 hle, fun he => ?_⟩
    have e1 : sz = rows'.length := Nat.le_antisymm h1 (he ▸ hle)
    exact ⟨(h2 e1).1, (h2 e1).2.step s (heq (e1 ▸ he))⟩
  | ptr id sz row col ad hok =>
    intro hb
    cases hb with | ptr _ _ _ _ hid =>
    refine .ptr id sz row col ad fun esz rows hr => ?_
    obtain ⟨rows', hr', hle, heq⟩ := s.arr id hid esz rows hr
    obtain ⟨h1, h2⟩ := hok esz rows' hr'
    refine ⟨Nat.le_trans h1 hle, fun he => ?_⟩
    have e1 : sz = rows'.length := Nat.le_antisymm h1 (he ▸ hle)
    obtain ⟨b, hb, had⟩ := h2 e1
    exact ⟨b, (heq (e1 ▸ he)).trans hb, had⟩
  | fp cells blk off vals hcell hrel ih =>
    intro hb
    cases hb with | fp _ hb =>
    exact .fp cells blk off vals (fun j x h1 => let ⟨e1, e2⟩ := s.cell _ _ _ (hcell j x h1).1 (hcell j x h1).2.1; ⟨e1, e2, (hcell j x h1).2.2⟩) (fun j x h1 => ih j x h1 (hb x (List.mem_of_getElem? h1)))
  | agg cells vs hlen hone hrel ih =>
    intro hb
    cases hb with | agg _ hb =>
    exact .agg cells vs hlen hone fun i x v h1 h2 => ih i x v h1 h2 (hb x (List.mem_of_getElem? h1))
  | tuple cells vs hlen hrel ih =>
    intro hb
    cases hb with | tuple _ hb =>
    exact .tuple cells vs hlen fun i x v h1 h2 => ih i x v h1 h2 (hb x (List.mem_of_getElem? h1))
  | func fn first captured vs us hlen hlen' hrel hrel' ih ih' =>
    intro hb
    cases hb with | func _ _ _ hb hb' =>
    exact .func fn first captured vs us hlen hlen' (fun i x v h1 h2 => ih i x v h1 h2 (hb x (List.mem_of_getElem? h1)))
      (fun i x v h1 h2 => ih' i x v h1 h2 (hb' x (List.mem_of_getElem? h1)))
  | nilFunc => exact fun _ => .nilFunc
  | iface t x v h ih =>
    intro hb
    cases hb with | iface _ _ hb =>
    exact .iface t x v (ih hb)
  | nilIface => exact fun _ => .nilIface
  | nilmap => exact fun _ => .nilmap
  | mapv id r hok =>
    intro hb
    cases hb with | mapv _ hid =>
    refine .mapv id r fun es he => ?_
    obtain ⟨es', he', hβ⟩ := s.mp id hid es he
    exact hβ.trans (hok es' he')

/-- An object lies in the world. -/
def ObIn (c : Cx) (id : Nat) : Ob → Prop
  | .arr esz rows => (∀ r, r ∈ rows → r.length = esz) ∧
      match c.β id with
      | none => rows = []
      | some b => ∃ cs e, c.w.heap[b]? = some (.cells cs e (0, 0)) ∧ rows.length * esz ≤ cs.size ∧
          ∀ (i : Nat) (r : List AVal) (j : Nat) (x : AVal), rows[i]? = some r → r[j]? = some x → ∃ v, cs[i * esz + j]? = some v ∧ v.oneCell' = true ∧ VRel c x v
  | .mp a => ∃ b ms, c.β id = some b ∧ c.w.heap[b]? = some (.map ms a.clock) ∧ ms.size = a.es.length ∧
      ∀ (i : Nat) (k v : AVal) (n : Nat) (m : MapEntry), a.es[i]? = some (k, v, n) → ms[i]? = some m → VRel c k m.key ∧ VRel c v m.val ∧ m.born = n

def Ob.nm (p : Nat → Prop) : Ob → Prop
  | .arr _ rows => ∀ r, r ∈ rows → ∀ x, x ∈ r → Nm p x
  | .mp a => ∀ e, e ∈ a.es → Nm p e.1 ∧ Nm p e.2.1

/-- The blocks of an abstract heap. -/
def owns (β : Nat → Option Nat) (h : Heap) (b : Nat) : Prop := ∃ id o, lk h id = some o ∧ β id = some b

/-- The context of a world, of blocks that others may write, of an abstract heap. -/
def cx (ext : Nat → Prop) (β : Nat → Option Nat) (h : Heap) (w : World) : Cx := { w, own := fun b => ext b ∨ owns β h b, h, β }

structure HIn (ext : Nat → Prop) (β : Nat → Option Nat) (p : Nat → Prop) (h : Heap) (w : World) : Prop where
  ob : ∀ id o, lk h id = some o → ObIn (cx ext β h w) id o
  nm : ∀ id o, lk h id = some o → p id ∧ o.nm p
  inj : ∀ id id' o o' b, lk h id = some o → lk h id' = some o' → β id = some b → β id' = some b → id = id'
  ext : ∀ b, ext b → b < w.heap.size ∧ ¬ owns β h b

/-- What goes on in a world: blocks that are not one's own stay; one's own are those that were, and new ones; no row of cells changes its length. -/
structure Evo (own : Nat → Prop) (w : World) (own' : Nat → Prop) (w' : World) : Prop where
  size : w.heap.size ≤ w'.heap.size
  keep : ∀ b, b < w.heap.size → ¬ own b → w'.heap[b]? = w.heap[b]?
  fresh : ∀ b, b < w.heap.size → own' b → own b
  shape : ∀ b x, w.shape? b = some x → w'.shape? b = some x
  rest : w'.os = w.os ∧ w'.tape = w.tape ∧ w'.output = w.output

theorem Evo.refl (own : Nat → Prop) (w : World) : Evo own w own w := ⟨Nat.le_refl _, fun _ _ _ => rfl, fun _ _ h => h, fun _ _ h => h, rfl, rfl, rfl⟩

theorem Evo.trans {o1 o2 o3 : Nat → Prop} {w1 w2 w3 : World} (h : Evo o1 w1 o2 w2) (h' : Evo o2 w2 o3 w3) : Evo o1 w1 o3 w3 where
  size := Nat.le_trans h.size h'.size
  keep b hb hn := by
    rw [h'.keep b (Nat.lt_of_lt_of_le hb h.size) (fun h2 => hn (h.fresh b hb h2)), h.keep b hb hn]
  fresh b hb h3 := h.fresh b hb (h'.fresh b (Nat.lt_of_lt_of_le hb h.size) h3)
  shape b x hx := h'.shape b x (h.shape b x hx)
  rest := ⟨h'.rest.1.trans h.rest.1, h'.rest.2.1.trans h.rest.2.1, h'.rest.2.2.trans h.rest.2.2⟩

theorem cell_lt {w : World} {b o : Nat} {v : Value} (h : w.cell? ⟨b, o, none⟩ = some v) : b < w.heap.size := by
  unfold World.cell? at h
  rcases Nat.lt_or_ge b w.heap.size with hb | hb
  · exact hb
  · simp [Array.getElem?_eq_none hb] at h

theorem cell_of_heap {w w' : World} {b : Nat} (h : w'.heap[b]? = w.heap[b]?) (o : Nat) : w'.cell? ⟨b, o, none⟩ = w.cell? ⟨b, o, none⟩ := by
  unfold World.cell?
  rw [h]

end Go.AM
end

section
namespace Go.AM
open Go

structure St where
  tmps : List AVal
  h : Heap
  nx : Nat

/-- The number of an object that is there. -/
abbrev Lt (n : Nat) : Nat → Prop := fun i => i < n

/-- The slots and the world are as an abstract state says, whose objects' numbers are among 'p'. -/
structure SInP (n0 : Nat) (ext : Nat → Prop) (β : Nat → Option Nat) (p : Nat → Prop) (tmps : List AVal) (h : Heap) (a : Act) (w : World) : Prop where
  heap : HIn ext β p h w
  size : a.tmps.size = tmps.length
  rel : ∀ (i : Nat) x v, tmps[i]? = some x → a.tmps[i]? = some v → VRel (cx ext β h w) x v
  nm : ∀ x, x ∈ tmps → Nm p x
  defers : a.defers = []
  low : ∀ i, i < n0 → p i

abbrev SIn (n0 : Nat) (ext : Nat → Prop) (β : Nat → Option Nat) (s : St) (a : Act) (w : World) : Prop := SInP n0 ext β (Lt s.nx) s.tmps s.h a w

/-- How one gets from one state to another one. -/
structure Goes (n0 : Nat) (ext : Nat → Prop) (β : Nat → Option Nat) (h : Heap) (w : World) (β' : Nat → Option Nat) (h' : Heap) (w' : World) : Prop where
  evo : Evo (owns β h) w (owns β' h') w'
  step : Step (Lt n0) (cx ext β h w) (cx ext β' h' w')

theorem Step.refl (p : Nat → Prop) (c : Cx) : Step p c c :=
  ⟨fun _ _ _ h1 h2 => ⟨h1, h2⟩, fun _ _ h => h, fun _ _ _ rows h => ⟨rows, h, Nat.le_refl _, fun _ => rfl⟩, fun _ _ es h => ⟨es, h, rfl⟩⟩

theorem Step.trans {p : Nat → Prop} {c d e : Cx} (h : Step p c d) (h' : Step p d e) : Step p c e where
  cell b o v h1 h2 := let ⟨h3, h4⟩ := h.cell b o v h1 h2; h'.cell b o v h3 h4
  shape b x hx := h'.shape b x (h.shape b x hx)
  arr id hid esz rows hr := by
    obtain ⟨r1, h1, h2, h3⟩ := h'.arr id hid esz rows hr
    obtain ⟨r2, h4, h5, h6⟩ := h.arr id hid esz r1 h1
    exact ⟨r2, h4, Nat.le_trans h5 h2, fun e => (h3 (by omega)).trans (h6 (by omega))⟩
  mp id hid es hr := by
    obtain ⟨r1, h1, h2⟩ := h'.mp id hid es hr
    obtain ⟨r2, h4, h5⟩ := h.mp id hid r1 h1
    exact ⟨r2, h4, h2.trans h5⟩

theorem Step.weaken {p q : Nat → Prop} {c d : Cx} (h : Step p c d) (hq : ∀ i, q i → p i) : Step q c d :=
  ⟨h.cell, h.shape, fun id hid => h.arr id (hq id hid), fun id hid => h.mp id (hq id hid)⟩

theorem Goes.refl (n0 : Nat) (ext : Nat → Prop) (β : Nat → Option Nat) (h : Heap) (w : World) : Goes n0 ext β h w β h w := ⟨Evo.refl _ _, Step.refl _ _⟩

theorem Goes.trans {n0 : Nat} {ext : Nat → Prop} {β1 β2 β3 : Nat → Option Nat} {h1 h2 h3 : Heap} {w1 w2 w3 : World}
    (a : Goes n0 ext β1 h1 w1 β2 h2 w2) (b : Goes n0 ext β2 h2 w2 β3 h3 w3) : Goes n0 ext β1 h1 w1 β3 h3 w3 := ⟨a.evo.trans b.evo, a.step.trans b.step⟩

def Post (n0 : Nat) (ext : Nat → Prop) (β : Nat → Option Nat) (h : Heap) (w : World) (Q : Exit → St → Prop) : Exit → Act → World → Prop :=
  fun e a' w' => ∃ β' s', Q e s' ∧ SIn n0 ext β' s' a' w' ∧ Goes n0 ext β h w β' s'.h w'

/-- Code that is gone through from an abstract state ends as 'Q' says. -/
def AWP (P : Program) (n0 : Nat) (c : Code) (Q : Exit → St → Prop) (s : St) : Prop :=
  ∀ ext β a w, SIn n0 ext β s a w → c.wp P (Post n0 ext β s.h w Q) a w

theorem Post.after {n0 : Nat} {ext : Nat → Prop} {β β1 : Nat → Option Nat} {h h1 : Heap} {w w1 : World} {Q : Exit → St → Prop} {e : Exit} {a : Act} {w2 : World}
    (g : Goes n0 ext β h w β1 h1 w1) (p : Post n0 ext β1 h1 w1 Q e a w2) : Post n0 ext β h w Q e a w2 :=
  let ⟨β', s', q, i, g'⟩ := p; ⟨β', s', q, i, g.trans g'⟩

section rules
variable {P : Program} {n0 : Nat} {Q : Exit → St → Prop} {s : St}

theorem AWP.mono {c : Code} {Q' : Exit → St → Prop} (h : AWP P n0 c Q s) (hq : ∀ e s, Q e s → Q' e s) : AWP P n0 c Q' s :=
  fun ext β a w i => wp_mono (h ext β a w i) fun _ _ _ ⟨β', s', q, r⟩ => ⟨β', s', hq _ _ q, r⟩

theorem AWP_skip (h : Q .normal s) : AWP P n0 .skip Q s := fun ext β _ w i => wp_skip ⟨β, s, h, i, Goes.refl _ ext β s.h w⟩

theorem AWP_exit {id : Nat} (h : Q (.exit id) s) : AWP P n0 (.exit id) Q s := fun ext β _ w i => wp_exit ⟨β, s, h, i, Goes.refl _ ext β s.h w⟩

theorem AWP_ret (h : Q .ret s) : AWP P n0 .ret Q s := fun ext β _ w i => wp_ret ⟨β, s, h, i, Goes.refl _ ext β s.h w⟩

def thenQ (K : St → Prop) (Q : Exit → St → Prop) : Exit → St → Prop
  | .normal, s => K s
  | e, s => Q e s

theorem AWP_seq {x y : Code} (h : AWP P n0 x (thenQ (AWP P n0 y Q) Q) s) : AWP P n0 (x.seq y) Q s := by
  intro ext β a w i
  refine wp_seq (wp_mono (h ext β a w i) ?_)
  rintro e a' w' ⟨β', s', q, i', g⟩
  cases e with
  | normal => exact wp_mono (q ext β' a' w' i') fun _ _ _ p => p.after g
  | exit id => exact ⟨β', s', q, i', g⟩
  | goto l => exact ⟨β', s', q, i', g⟩
  | ret => exact ⟨β', s', q, i', g⟩
  | panic c => exact ⟨β', s', q, i', g⟩
  | outgrown => exact ⟨β', s', q, i', g⟩

def blockQ (id : Nat) (Q : Exit → St → Prop) : Exit → St → Prop
  | .exit id', s => if id' = id then Q .normal s else Q (.exit id') s
  | e, s => Q e s

theorem AWP_block {id : Nat} {c : Code} (h : AWP P n0 c (blockQ id Q) s) : AWP P n0 (.block id c) Q s := by
  intro ext β a w i
  refine wp_block (wp_mono (h ext β a w i) ?_)
  rintro e a' w' ⟨β', s', q, i', g⟩
  cases e with
  | exit id' =>
    simp only [blockQ] at q
    simp only [Exit.inBlock]
    by_cases hid : id' = id
    · rw [if_pos hid] at q ⊢; exact ⟨β', s', q, i', g⟩
    · rw [if_neg hid] at q ⊢; exact ⟨β', s', q, i', g⟩
  | normal => exact ⟨β', s', q, i', g⟩
  | goto l => exact ⟨β', s', q, i', g⟩
  | ret => exact ⟨β', s', q, i', g⟩
  | panic c => exact ⟨β', s', q, i', g⟩
  | outgrown => exact ⟨β', s', q, i', g⟩

/-- A loop of the machine, by a number that falls. -/
theorem wp_loop_n {c : Code} {R : Exit → Act → World → Prop} (I : Nat → Act → World → Prop)
    (round : ∀ n a w, I n a w → c.wp P (Exit.then (fun a' w' => ∃ m, m < n ∧ I m a' w') R) a w) : ∀ n a w, I n a w → (Code.loop c).wp P R a w := by
  intro n₀ a₀ w₀ h₀ b k cs
  have key : ∀ n a w, I n a w → ∃ e a' w', R e a' w' ∧ Arrives P (lone (b.at a (.code c :: .inLoop c :: k)) cs w) b k cs e a' w' := by
    intro n
    induction n using Nat.strongRecOn with
    | _ n ih =>
      intro a w hI
      obtain ⟨e, a₁, w₁, hq, harr⟩ := round n a w hI b (.inLoop c :: k) cs
      cases e with
      | normal =>
        obtain ⟨m, hlt, hI₁⟩ := hq
        obtain ⟨e₂, a₂, w₂, hq₂, harr₂⟩ := ih m hlt a₁ w₁ hI₁
        exact ⟨e₂, a₂, w₂, hq₂, .of_steps (Steps.trans harr (.one step_inLoop)) harr₂⟩
      | exit id => exact ⟨_, a₁, w₁, hq, .pass (x := .inLoop c) rfl (fun _ _ => .inl (by simp)) harr⟩
      | goto l => exact ⟨_, a₁, w₁, hq, .pass (x := .inLoop c) rfl (fun _ _ => .inl (by simp)) harr⟩
      | ret => exact ⟨_, a₁, w₁, hq, .pass (x := .inLoop c) rfl (fun _ _ => .inl (by simp)) harr⟩
      | panic ch => exact ⟨_, a₁, w₁, hq, .pass (x := .inLoop c) rfl (fun _ _ => .inl (by simp)) harr⟩
      | outgrown => exact ⟨_, a₁, w₁, hq, .pass (x := .inLoop c) rfl (fun _ _ => .inl (by simp)) harr⟩
  obtain ⟨e, a', w', hq, harr⟩ := key n₀ a₀ w₀ h₀
  exact ⟨e, a', w', hq, .of_steps (.one step_loop) harr⟩

/-- A state says no more than another one: fewer slots are known, fewer objects are there. -/
structure Weak (n0 : Nat) (s s' : St) : Prop where
  len : s'.tmps.length = s.tmps.length
  tmps : ∀ (i : Nat) x', s'.tmps[i]? = some x' → x' = .junk ∨ s.tmps[i]? = some x'
  heap : ∀ id o, lk s'.h id = some o → lk s.h id = some o
  nm : ∀ x, x ∈ s'.tmps → Nm (Lt s'.nx) x
  nmh : ∀ id o, lk s'.h id = some o → id < s'.nx ∧ o.nm (Lt s'.nx)
  low : n0 ≤ s'.nx

theorem ObIn.step {p : Nat → Prop} {c d : Cx} (st : Step p c d) {id : Nat} {o : Ob} (hβ : d.β id = c.β id) (hh : ∀ b, c.β id = some b → d.w.heap[b]? = c.w.heap[b]?)
    (hn : o.nm p) (h : ObIn c id o) : ObIn d id o := by
  cases o with
  | arr esz rows =>
    obtain ⟨h1, h2⟩ := h
    refine ⟨h1, ?_⟩
    rw [hβ]
    cases hb : c.β id with
    | none => simpa [hb] using h2
    | some b =>
      simp only [hb] at h2 ⊢
      obtain ⟨cs, e, h3, h4, h5⟩ := h2
      refine ⟨cs, e, (hh b hb).trans h3, h4, fun i r j x hr hx => ?_⟩
      obtain ⟨v, hv, h1', hr'⟩ := h5 i r j x hr hx
      exact ⟨v, hv, h1', hr'.step st (hn r (List.mem_of_getElem? hr) x (List.mem_of_getElem? hx))⟩
  | mp es =>
    obtain ⟨b, ms, h1, h2, h3, h4⟩ := h
    refine ⟨b, ms, hβ.trans h1, (hh b h1).trans h2, h3, fun i k v n m hk hm => ?_⟩
    obtain ⟨h5, h6, h7⟩ := h4 i k v n m hk hm
    have := hn _ (List.mem_of_getElem? hk)
    exact ⟨h5.step st this.1, h6.step st this.2, h7⟩

theorem SIn.weak {ext : Nat → Prop} {β : Nat → Option Nat} {s' : St} {a : Act} {w : World} (i : SIn n0 ext β s a w) (k : Weak n0 s s') :
    SIn n0 ext β s' a w ∧ Goes n0 ext β s.h w β s'.h w := by
  have hown : ∀ b, owns β s'.h b → owns β s.h b := fun b ⟨id, o, h1, h2⟩ => ⟨id, o, k.heap id o h1, h2⟩
  have st : ∀ p, Step p (cx ext β s.h w) (cx ext β s'.h w) := fun p =>
    { cell := fun b o v h1 h2 => ⟨fun h => h1 (h.imp id (hown b)), h2⟩
      shape := fun _ _ h => h
      arr := fun id _ esz rows h => ⟨rows, k.heap _ _ h, Nat.le_refl _, fun _ => rfl⟩
      mp := fun id _ es h => ⟨es, k.heap _ _ h, rfl⟩ }
  refine ⟨⟨⟨fun id o ho => ?_, k.nmh, fun id id' o o' b h1 h2 => i.heap.inj id id' o o' b (k.heap _ _ h1) (k.heap _ _ h2), fun b hb => ?_⟩, ?_, ?_, k.nm, i.defers, fun j hj => Nat.lt_of_lt_of_le hj k.low⟩,
    ⟨⟨Nat.le_refl _, fun _ _ _ => rfl, fun b _ h => hown b h, fun _ _ h => h, rfl, rfl, rfl⟩, st _⟩⟩
  · have h1 := i.heap.ob id o (k.heap id o ho)
    exact ObIn.step (st (Lt s'.nx)) rfl (fun _ _ => rfl) (k.nmh id o ho).2 h1
  · exact ⟨(i.heap.ext b hb).1, fun h => (i.heap.ext b hb).2 (hown b h)⟩
  · rw [i.size, k.len]
  · intro j x v hx hv
    rcases k.tmps j x hx with rfl | h
    · exact .junk v
    · exact (i.rel j x v h hv).step (st (Lt s'.nx)) (k.nm x (List.mem_of_getElem? hx))

theorem AWP_weak {c : Code} (s' : St) (k : Weak n0 s s') (h : AWP P n0 c Q s') : AWP P n0 c Q s := by
  intro ext β a w i
  obtain ⟨i', g⟩ := i.weak k
  exact wp_mono (h ext β a w i') fun _ _ _ p => p.after g

/-- A loop over abstract states. -/
theorem AWP_loop {c : Code} (I : Nat → St → Prop) (n : Nat) (h0 : I n s)
    (round : ∀ n s, I n s → AWP P n0 c (thenQ (fun s' => ∃ m, m < n ∧ ∃ s'', I m s'' ∧ Weak n0 s' s'') Q) s) : AWP P n0 (.loop c) Q s := by
  intro ext β a w i
  refine wp_loop_n (P := P) (fun m a' w' => ∃ β' s', I m s' ∧ SIn n0 ext β' s' a' w' ∧ Goes n0 ext β s.h w β' s'.h w') ?_ n a w ⟨β, s, h0, i, Goes.refl _ _ _ _ _⟩
  rintro m a' w' ⟨β', s', hI, i', g⟩
  refine wp_mono (round m s' hI ext β' a' w' i') ?_
  rintro e a2 w2 ⟨β2, s2, q, i2, g2⟩
  cases e with
  | normal =>
    obtain ⟨m', hm, s3, hI3, k⟩ := q
    obtain ⟨i3, g3⟩ := i2.weak k
    exact ⟨m', hm, β2, s3, hI3, i3, (g.trans g2).trans g3⟩
  | exit id => exact ⟨β2, s2, q, i2, g.trans g2⟩
  | goto l => exact ⟨β2, s2, q, i2, g.trans g2⟩
  | ret => exact ⟨β2, s2, q, i2, g.trans g2⟩
  | panic ch => exact ⟨β2, s2, q, i2, g.trans g2⟩
  | outgrown => exact ⟨β2, s2, q, i2, g.trans g2⟩

end rules

/-- A constant's abstract value. -/
def ofC : Value → AVal
  | .bool b => .bool b
  | .int k n => .int k n
  | .string s => .str s
  | .pointer none => .nilp
  | .slice none 0 0 => .sl [] (some 0)
  | .nilFunc => .nilFunc
  | .nilIface => .nilIface
  | .map none => .nilmap
  | .func fn vs us => if vs.size = 0 then (if us.size = 0 then .func fn [] [] else .junk) else .junk
  | _ => .junk

def ofV : Value → AVal
  | .agg cs => if cs.toList.all Value.oneCell' then .agg (cs.toList.map ofC) else .junk
  | v => ofC v

theorem VRel_ofC (c : Cx) (v : Value) : VRel c (ofC v) v := by
  unfold ofC
  split
  · exact .bool _
  · exact .int _ _
  · exact .str _
  · exact .nilp
  · exact .sl [] (some 0) none 0 0 0 0 (fun _ _ => .nilFunc) (by simp) (by simp) (by simp) (by simp) (by simp) (by simp)
  · exact .nilFunc
  · exact .nilIface
  · exact .nilmap
  · rename_i fn vs us
    split
    · rename_i h1
      split
      · rename_i h2
        exact .func fn [] [] vs us (by simpa using h1) (by simpa using h2) (by simp) (by simp)
      · exact .junk _
    · exact .junk _
  · exact .junk _

theorem VRel_ofV (c : Cx) (v : Value) : VRel c (ofV v) v := by
  unfold ofV
  split
  · rename_i cs
    split
    case isFalse => exact .junk _
    rename_i hall
    refine .agg _ cs (by simp) (fun i v hv => List.all_eq_true.1 hall v (by have := Array.mem_of_getElem? hv; simpa using this)) fun i x v h1 h2 => ?_
    have : cs.toList[i]? = some v := by simpa using h2
    rw [List.getElem?_map, this] at h1
    injection h1 with h1
    exact h1 ▸ VRel_ofC c v
  · exact VRel_ofC c _

theorem Fz_ofC (v : Value) : Fz (ofC v) := by
  unfold ofC
  split
  · exact .bool _
  · exact .int _ _
  · exact .str _
  · exact .nilp
  · exact .sl _ _ (by simp)
  · exact .nilFunc
  · exact .nilIface
  · exact .nilmap
  · split
    · split
      · exact .func _ _ _ (by simp) (by simp)
      · exact .junk
    · exact .junk
  · exact .junk

theorem Fz_ofV (v : Value) : Fz (ofV v) := by
  unfold ofV
  split
  · split
    case isFalse => exact .junk
    refine .agg _ fun x hx => ?_
    obtain ⟨y, _, rfl⟩ := List.mem_map.1 hx
    exact Fz_ofC y
  · exact Fz_ofC _

/-- An operand's abstract value. -/
def ev (tmps : List AVal) : Operand → AVal
  | .tmp t => tmps.getD t .junk
  | .const v => ofV v
  | .global _ => .junk
  | .func f => .func (.func f) [] []

theorem SInP.ev {n0 : Nat} {ext : Nat → Prop} {β : Nat → Option Nat} {p : Nat → Prop} {tmps : List AVal} {h : Heap} {a : Act} {w : World} (i : SInP n0 ext β p tmps h a w) (o : Operand) :
    VRel (cx ext β h w) (ev tmps o) (a.eval o) := by
  cases o with
  | tmp t =>
    simp only [AM.ev, Act.eval]
    rw [List.getD_eq_getElem?_getD, Array.getD_eq_getD_getElem?]
    cases hx : tmps[t]? with
    | none => exact .junk _
    | some x =>
      have ht : t < a.tmps.size := by rw [i.size]; exact (List.getElem?_eq_some_iff.1 hx).1
      have := i.rel t x a.tmps[t] hx (Array.getElem?_eq_getElem ht)
      simpa [Array.getElem?_eq_getElem ht] using this
  | const v => exact VRel_ofV _ v
  | global g => exact .junk _
  | func f => exact .func _ [] [] #[] #[] rfl rfl (by simp) (by simp)

theorem SInP.nm_ev {n0 : Nat} {ext : Nat → Prop} {β : Nat → Option Nat} {p : Nat → Prop} {tmps : List AVal} {h : Heap} {a : Act} {w : World} (i : SInP n0 ext β p tmps h a w) (o : Operand) :
    Nm p (AM.ev tmps o) := by
  cases o with
  | tmp t =>
    simp only [AM.ev]
    rw [List.getD_eq_getElem?_getD]
    cases hx : tmps[t]? with
    | none => exact .junk
    | some x => exact i.nm x (List.mem_of_getElem? hx)
  | const v => exact Fz.nm (Fz_ofV v) p
  | global g => exact .junk
  | func f => exact .func _ _ _ (by simp) (by simp)

theorem AWP_cond {P : Program} {n0 : Nat} {Q : Exit → St → Prop} {s : St} {c : Operand} {x y : Code} {b : Bool} (hc : ev s.tmps c = .bool b)
    (h1 : b = true → AWP P n0 x Q s) (h2 : b = false → AWP P n0 y Q s) : AWP P n0 (.cond c x y) Q s := by
  intro ext β a w i
  have hv := i.ev c
  rw [hc] at hv
  generalize hz : a.eval c = v at hv
  cases hv
  cases b with
  | true => exact wp_cond_true hz (h1 rfl ext β a w i)
  | false => exact wp_cond_false hz (h2 rfl ext β a w i)

end Go.AM
end

section
namespace Go.AM
open Go

/-- A field: its place, its size in cells, is it an aggregate, its type, is it blank. -/
structure Fld where
  off : Nat
  size : Nat
  agg : Bool
  type : TypeId
  blank : Bool

/-- What a type is. -/
inductive TK where
  | bool
  | int (k : IntKind)
  | str
  | ptr (e : TypeId)
  | slice (e : TypeId)
  | struct (fs : List Fld)
  | array (n : Nat) (e : TypeId)
  | map (k e : TypeId)
  | iface (ms : Nat)
  | other

structure TI where
  kind : TK
  size : Nat
  bytes : Nat
  zero : AVal

def aggD : TypeDesc → Bool
  | .struct _ => true
  | .array _ _ => true
  | _ => false

def TK.agg : TK → Bool
  | .struct _ => true
  | .array _ _ => true
  | _ => false

def kindOf (P : Program) : TypeDesc → Option TK
  | .bool => some .bool
  | .int k => some (.int k)
  | .string => some .str
  | .pointer e => some (.ptr e)
  | .slice e => some (.slice e)
  | .struct fs => (fs.toList.mapM fun f => (P.info? f.type).bind fun i => (P.underlying f.type).map fun d => { off := f.offset, size := i.size, agg := aggD d, type := f.type, blank := f.name == "_" : Fld }).map .struct
  | .array n e => some (.array n e)
  | .map k e => some (.map k e)
  | .interface ms => some (.iface ms.size)
  | _ => some .other

/-- The table of a program's types. -/
def tab (P : Program) (t : TypeId) : Option TI :=
  match P.info? t, P.underlying t with
  | some i, some d =>
    match i.zero, kindOf P d with
    | some z, some k => if z.cells.size = i.size then some { kind := k, size := i.size, bytes := i.bytes, zero := ofV z } else none
    | _, _ => none
  | _, _ => none

theorem kindOf_agg {P : Program} {d : TypeDesc} {k : TK} (h : kindOf P d = some k) : k.agg = aggD d := by
  cases d <;> simp [kindOf] at h <;> try (subst h; rfl)
  obtain ⟨fs, _, rfl⟩ := h
  rfl

theorem tab_spec {P : Program} {t : TypeId} {ti : TI} (h : tab P t = some ti) :
    ∃ i d z, P.info? t = some i ∧ P.underlying t = some d ∧ i.zero = some z ∧ kindOf P d = some ti.kind ∧ z.cells.size = ti.size ∧ i.size = ti.size ∧ i.bytes = ti.bytes ∧ ofV z = ti.zero := by
  unfold tab at h
  split at h
  case h_2 => cases h
  rename_i i d h1 h2
  split at h
  case h_2 => cases h
  rename_i z k h3 h4
  split at h
  case isFalse => cases h
  rename_i h5
  injection h with h
  subst h
  exact ⟨i, d, z, h1, h2, h3, h4, h5, rfl, rfl, rfl⟩

section runs
variable {P : Program} (w : World) {t : TypeId} {ti : TI} (h : tab P t = some ti)
include h

theorem run_und : ∃ d, P.underlying t = some d ∧ (underlying t).run P w = .ok d w ∧ kindOf P d = some ti.kind :=
  let ⟨_, d, _, _, h2, _, h4, _⟩ := tab_spec h; ⟨d, h2, run_underlying h2 w, h4⟩

theorem run_size : (sizeOf t).run P w = .ok ti.size w := by
  obtain ⟨i, d, z, h1, h2, h3, h4, h5, h6, h7, h8⟩ := tab_spec h
  simp [sizeOf, typeInfo, h1, h6]

theorem run_bytes : ∃ i, (typeInfo t).run P w = .ok i w ∧ i.bytes = ti.bytes := by
  obtain ⟨i, d, z, h1, h2, h3, h4, h5, h6, h7, h8⟩ := tab_spec h
  exact ⟨i, by simp [typeInfo, h1], h7⟩

theorem run_zero : ∃ z, (zeroValue t).run P w = .ok z w ∧ ofV z = ti.zero ∧ z.cells.size = ti.size := by
  obtain ⟨i, d, z, h1, h2, h3, h4, h5, h6, h7, h8⟩ := tab_spec h
  exact ⟨z, by simp [zeroValue, typeInfo, h1, h3], h8, h5⟩

theorem run_isAgg : (isAgg t).run P w = .ok ti.kind.agg w := by
  obtain ⟨d, h1, h2, h3⟩ := run_und w h
  unfold isAgg
  rw [Sem.run_bind, h2, kindOf_agg h3]
  cases d <;> simp [aggD]

end runs

def hset : Heap → Nat → Ob → Heap
  | [], _, _ => []
  | (i, o) :: t, j, o' => if i = j then (i, o') :: t else (i, o) :: hset t j o'

theorem lk_hset {h : Heap} {id : Nat} {o : Ob} (o' : Ob) (hid : lk h id = some o) (j : Nat) : lk (hset h id o') j = if j = id then some o' else lk h j := by
  induction h with
  | nil => simp [lk] at hid
  | cons a t ih =>
    obtain ⟨i, x⟩ := a
    simp only [hset]
    by_cases h1 : i = id
    · subst h1
      simp only [if_true, lk]
      by_cases h2 : j = i
      · subst h2; simp
      · have : ¬ i = j := fun e => h2 e.symm
        simp [h2, this]
    · simp only [lk, if_neg h1] at hid
      simp only [if_neg h1, lk]
      rw [ih hid]
      by_cases h2 : j = id
      · subst h2; simp [h1]
      · simp [h2]

/-- How many rows, how many cells each. -/
def Ob.same : Ob → Ob → Prop
  | .arr e r, .arr e' r' => e = e' ∧ r.length ≤ r'.length
  | .mp _, .mp _ => True
  | _, _ => False

section heap
variable {ext : Nat → Prop} {β : Nat → Option Nat} {p : Nat → Prop} {h : Heap} {w w' : World}

theorem owns_hset {id : Nat} {o o' : Ob} (hid : lk h id = some o) (b : Nat) : owns β (hset h id o') b ↔ owns β h b := by
  constructor
  · rintro ⟨j, x, h1, h2⟩
    rw [lk_hset o' hid] at h1
    by_cases hj : j = id
    · subst hj; exact ⟨j, o, hid, h2⟩
    · rw [if_neg hj] at h1; exact ⟨j, x, h1, h2⟩
  · rintro ⟨j, x, h1, h2⟩
    by_cases hj : j = id
    · subst hj; exact ⟨j, o', by rw [lk_hset o' hid, if_pos rfl], h2⟩
    · exact ⟨j, x, by rw [lk_hset o' hid, if_neg hj]; exact h1, h2⟩

/-- An object's block is written over. -/
theorem HIn.upd (hin : HIn ext β p h w) {id b : Nat} {o o' : Ob} (hid : lk h id = some o) (hb : β id = some b) (hother : ∀ k, k ≠ b → w'.heap[k]? = w.heap[k]?)
    (hsize : w'.heap.size = w.heap.size ∧ w'.os = w.os ∧ w'.tape = w.tape ∧ w'.output = w.output) (hshape : ∀ k x, w.shape? k = some x → w'.shape? k = some x) (hsame : o.same o') (hnm : o'.nm p)
    (hob : (∀ q, Step q (cx ext β h w) (cx ext β (hset h id o') w')) → ObIn (cx ext β (hset h id o') w') id o') :
    HIn ext β p (hset h id o') w' ∧ Evo (owns β h) w (owns β (hset h id o')) w' ∧ ∀ q, Step q (cx ext β h w) (cx ext β (hset h id o') w') := by
  have hown : owns β h b := ⟨id, o, hid, hb⟩
  have hstep : ∀ q, Step q (cx ext β h w) (cx ext β (hset h id o') w') := fun q => by
    refine ⟨fun k off v hk hc => ?_, hshape, fun j _ esz rows hj => ?_, fun j _ es hj => ?_⟩
    · have hkb : k ≠ b := fun e => hk (.inr (e ▸ hown))
      refine ⟨fun hk' => hk (hk'.imp (fun e => e) fun h1 => (owns_hset hid k).1 h1), ?_⟩
      exact (cell_of_heap (hother k hkb) off).trans hc
    · have hj' : lk (hset h id o') j = some (.arr esz rows) := hj
      rw [lk_hset o' hid] at hj'
      by_cases e : j = id
      · subst e
        rw [if_pos rfl] at hj'
        injection hj' with hj'
        subst hj'
        cases o with
        | mp es => exact hsame.elim
        | arr e1 r1 =>
          obtain ⟨rfl, hl⟩ := hsame
          exact ⟨r1, hid, by omega, fun _ => rfl⟩
      · rw [if_neg e] at hj'
        exact ⟨rows, hj', Nat.le_refl _, fun _ => rfl⟩
    · have hj' : lk (hset h id o') j = some (.mp es) := hj
      rw [lk_hset o' hid] at hj'
      by_cases e : j = id
      · subst e
        rw [if_pos rfl] at hj'
        injection hj' with hj'
        subst hj'
        cases o with
        | arr _ _ => exact hsame.elim
        | mp es' => exact ⟨es', hid, rfl⟩
      · rw [if_neg e] at hj'
        exact ⟨es, hj', rfl⟩
  refine ⟨⟨fun j x hj => ?_, fun j x hj => ?_, fun j j' x x' c hj hj' hc hc' => ?_, fun c hc => ?_⟩, ?_, hstep⟩
  · rw [lk_hset o' hid] at hj
    by_cases e : j = id
    · subst e
      rw [if_pos rfl] at hj
      injection hj with hj
      exact hj ▸ hob hstep
    · rw [if_neg e] at hj
      refine ObIn.step (hstep p) rfl (fun c hc => hother c fun ecb => e ?_) (hin.nm j x hj).2 (hin.ob j x hj)
      exact hin.inj j id x o b hj hid (ecb ▸ hc) hb
  · rw [lk_hset o' hid] at hj
    by_cases e : j = id
    · subst e
      rw [if_pos rfl] at hj
      injection hj with hj
      exact ⟨(hin.nm j o hid).1, hj ▸ hnm⟩
    · rw [if_neg e] at hj
      exact hin.nm j x hj
  · have g : ∀ k y, lk (hset h id o') k = some y → ∃ y', lk h k = some y' := fun k y hk => by
      rw [lk_hset o' hid] at hk
      by_cases e : k = id
      · exact ⟨o, e ▸ hid⟩
      · rw [if_neg e] at hk; exact ⟨y, hk⟩
    obtain ⟨y, hy⟩ := g j x hj
    obtain ⟨y', hy'⟩ := g j' x' hj'
    exact hin.inj j j' y y' c hy hy' hc hc'
  · rw [hsize.1]
    exact ⟨(hin.ext c hc).1, fun h1 => (hin.ext c hc).2 ((owns_hset hid c).1 h1)⟩
  · exact ⟨Nat.le_of_eq hsize.1.symm, fun k _ hk => hother k fun e => hk (e ▸ hown), fun k _ hk => (owns_hset hid k).1 hk, hshape, hsize.2⟩

/-- A new block is laid, for a new object. -/
theorem HIn.new (hin : HIn ext β p h w) {id : Nat} {q : Nat → Prop} {ob : Ob} {o : Obj} (hpid : ¬ p id) (hpq : ∀ j, p j → q j) (hq : q id) (hheap : w'.heap = w.heap.push o ∧ w'.os = w.os ∧ w'.tape = w.tape ∧ w'.output = w.output)
    (hnm : ob.nm q)
    (hob : Step p (cx ext β h w) (cx ext (fun j => if j = id then some w.heap.size else β j) ((id, ob) :: h) w') →
      ObIn (cx ext (fun j => if j = id then some w.heap.size else β j) ((id, ob) :: h) w') id ob) :
    HIn ext (fun j => if j = id then some w.heap.size else β j) q ((id, ob) :: h) w' ∧
    Evo (owns β h) w (owns (fun j => if j = id then some w.heap.size else β j) ((id, ob) :: h)) w' ∧
    Step p (cx ext β h w) (cx ext (fun j => if j = id then some w.heap.size else β j) ((id, ob) :: h) w') := by
  have hold : ∀ k, k < w.heap.size → w'.heap[k]? = w.heap[k]? := fun k hk => by
    rw [hheap.1, Array.getElem?_push, if_neg (Nat.ne_of_lt hk)]
  have hlk : ∀ j, lk ((id, ob) :: h) j = if j = id then some ob else lk h j := fun j => by
    simp only [lk]
    by_cases e : id = j
    · simp [e]
    · have : ¬ j = id := fun e' => e e'.symm
      simp [e, this]
  have hlt : ∀ j x c, lk h j = some x → β j = some c → c < w.heap.size := fun j x c hj hc => by
    have := hin.ob j x hj
    cases x with
    | arr esz rows =>
      obtain ⟨_, h2⟩ := this
      have hc' : (cx ext β h w).β j = some c := hc
      rw [hc'] at h2
      obtain ⟨cs, e, h3, _⟩ := h2
      exact (Array.getElem?_eq_some_iff.1 h3).1
    | mp es =>
      obtain ⟨b, ms, h1, h2, _⟩ := this
      have : b = c := by have := h1.symm.trans hc; simpa using this
      exact this ▸ (Array.getElem?_eq_some_iff.1 h2).1
  have hown : ∀ c, owns (fun j => if j = id then some w.heap.size else β j) ((id, ob) :: h) c → c = w.heap.size ∨ owns β h c := by
    rintro c ⟨j, x, h1, h2⟩
    rw [hlk] at h1
    by_cases e : j = id
    · simp only [if_pos e] at h2
      injection h2 with h2
      exact .inl h2.symm
    · simp only [if_neg e] at h1 h2
      exact .inr ⟨j, x, h1, h2⟩
  have hshape : ∀ k x, w.shape? k = some x → w'.shape? k = some x := fun k x hx => by
    have hk : k < w.heap.size := by
      rcases Nat.lt_or_ge k w.heap.size with h1 | h1
      · exact h1
      · simp [World.shape?, Array.getElem?_eq_none h1] at hx
    unfold World.shape? at *
    rw [hold k hk]; exact hx
  have hstep : Step p (cx ext β h w) (cx ext (fun j => if j = id then some w.heap.size else β j) ((id, ob) :: h) w') := by
    refine ⟨fun k off v hk hc => ?_, hshape, fun j hj esz rows hr => ?_, fun j hj es hr => ?_⟩
    · have hkl : k < w.heap.size := cell_lt hc
      refine ⟨fun hk' => hk (hk'.imp (fun e => e) fun h1 => ?_), (cell_of_heap (hold k hkl) off).trans hc⟩
      rcases hown k h1 with e | e
      · omega
      · exact e
    · have e : j ≠ id := fun e => hpid (e ▸ hj)
      have hr' : lk ((id, ob) :: h) j = some (.arr esz rows) := hr
      rw [hlk, if_neg e] at hr'
      exact ⟨rows, hr', Nat.le_refl _, fun _ => by simp [cx, e]⟩
    · have e : j ≠ id := fun e => hpid (e ▸ hj)
      have hr' : lk ((id, ob) :: h) j = some (.mp es) := hr
      rw [hlk, if_neg e] at hr'
      exact ⟨es, hr', by simp [cx, e]⟩
  refine ⟨⟨fun j x hj => ?_, fun j x hj => ?_, fun j j' x x' c hj hj' hc hc' => ?_, fun c hc => ?_⟩, ?_, hstep⟩
  · rw [hlk] at hj
    by_cases e : j = id
    · rw [if_pos e] at hj
      injection hj with hj
      rw [e]
      exact hj ▸ hob hstep
    · rw [if_neg e] at hj
      refine ObIn.step hstep (by simp [cx, e]) (fun c hc => hold c (hlt j x c hj hc)) (hin.nm j x hj).2 (hin.ob j x hj)
  · rw [hlk] at hj
    by_cases e : j = id
    · rw [if_pos e] at hj
      injection hj with hj
      exact ⟨e ▸ hq, hj ▸ hnm⟩
    · rw [if_neg e] at hj
      obtain ⟨h1, h2⟩ := hin.nm j x hj
      refine ⟨hpq j h1, ?_⟩
      cases x with
      | arr esz rows => exact fun r hr y hy => (h2 r hr y hy).mono hpq
      | mp es => exact fun e he => ⟨(h2 e he).1.mono hpq, (h2 e he).2.mono hpq⟩
  · rw [hlk] at hj hj'
    by_cases e : j = id <;> by_cases e' : j' = id
    · rw [e, e']
    · simp only [if_pos e] at hc
      simp only [if_neg e'] at hj' hc'
      injection hc with hc
      have := hlt j' x' c hj' hc'
      omega
    · simp only [if_pos e'] at hc'
      simp only [if_neg e] at hj hc
      injection hc' with hc'
      have := hlt j x c hj hc
      omega
    · simp only [if_neg e] at hj hc
      simp only [if_neg e'] at hj' hc'
      exact hin.inj j j' x x' c hj hj' hc hc'
  · have hs : w'.heap.size = w.heap.size + 1 := by rw [hheap.1]; simp
    have h1 := hin.ext c hc
    refine ⟨by omega, fun h2 => ?_⟩
    rcases hown c h2 with e | e
    · omega
    · exact h1.2 e
  · have hs : w'.heap.size = w.heap.size + 1 := by rw [hheap.1]; simp
    refine ⟨by omega, fun k hk _ => hold k hk, fun k hk h1 => ?_, hshape, hheap.2⟩
    rcases hown k h1 with e | e
    · omega
    · exact e

end heap

/-! ### Cells that lie somewhere -/

/-- Cells lie in a block from a place on. -/
def CellsAt (c : Cx) (blk off : Nat) (cells : List AVal) : Prop :=
  ∀ (j : Nat) x, cells[j]? = some x → ∃ v, c.w.cell? ⟨blk, off + j, none⟩ = some v ∧ v.oneCell' = true ∧ VRel c x v

theorem CellsAt.drop {c : Cx} {blk off : Nat} {cells : List AVal} (h : CellsAt c blk off cells) (k : Nat) : CellsAt c blk (off + k) (cells.drop k) := fun j x hx => by
  rw [List.getElem?_drop] at hx
  obtain ⟨v, hv, h1, h2⟩ := h (k + j) x hx
  exact ⟨v, by rw [Nat.add_assoc]; exact hv, h1, h2⟩

/-- A value of a type out of cells. -/
def takeAs (ti : TI) (cells : List AVal) : Option AVal :=
  if ti.kind.agg then (if ti.size ≤ cells.length then some (.agg (cells.take ti.size)) else none) else cells[0]?

theorem addr_add (b o n : Nat) : (⟨b, o, none⟩ : Addr).add n = ⟨b, o + n, none⟩ := by
  unfold Addr.add
  by_cases h : n = 0
  · simp [h]
  · simp [h]

theorem run_loadVar {P : Program} {c : Cx} {t : TypeId} {ti : TI} (ht : tab P t = some ti) {blk off : Nat} {cells : List AVal} (hc : CellsAt c blk off cells)
    {x : AVal} (hx : takeAs ti cells = some x) : ∃ v, (loadVar t ⟨blk, off, none⟩).run P c.w = .ok v c.w ∧ VRel c x v := by
  unfold takeAs at hx
  by_cases hd : ti.kind.agg = true
  · rw [if_pos hd] at hx
    by_cases hl : ti.size ≤ cells.length
    · rw [if_pos hl] at hx
      injection hx with hx
      have hcell : ∀ j, j < ti.size → ∃ x v, cells[j]? = some x ∧ c.w.cell? ⟨blk, off + j, none⟩ = some v ∧ v.oneCell' = true ∧ VRel c x v := fun j hj => by
        obtain ⟨v, h1, h2, h3⟩ := hc j cells[j] (List.getElem?_eq_getElem (by omega))
        exact ⟨cells[j], v, List.getElem?_eq_getElem (by omega), h1, h2, h3⟩
      let f : Nat → Value := fun j => (c.w.cell? ⟨blk, off + j, none⟩).getD undef
      have hf : ∀ j, j < ti.size → c.w.cell? ((⟨blk, off, none⟩ : Addr).add j) = some (f j) := fun j hj => by
        obtain ⟨x, v, _, h1, _⟩ := hcell j hj
        rw [addr_add]
        show _ = some ((c.w.cell? ⟨blk, off + j, none⟩).getD undef)
        rw [h1]; rfl
      have hrun := run_loadCells (P := P) c.w ⟨blk, off, none⟩ ti.size f hf
      refine ⟨.agg ((List.range ti.size).map f).toArray, ?_, ?_⟩
      · unfold loadVar
        simp [run_isAgg c.w ht, hd, run_size c.w ht, hrun]
      · subst hx
        have hget : ∀ (i : Nat) (u : Value), ((List.range ti.size).map f).toArray[i]? = some u → i < ti.size ∧ u = f i := fun i u h1 => by
          rw [List.getElem?_toArray, List.getElem?_map] at h1
          rcases Nat.lt_or_ge i ti.size with h2 | h2
          · rw [List.getElem?_range h2] at h1
            simp at h1
            exact ⟨h2, h1.symm⟩
          · rw [List.getElem?_eq_none (by simpa using h2)] at h1
            simp at h1
        refine .agg _ _ (by simp; omega) (fun i u h1 => ?_) (fun i y u h1 h2 => ?_)
        · obtain ⟨hi, rfl⟩ := hget i u h1
          obtain ⟨x, v, _, h4, h5, _⟩ := hcell i hi
          show (((c.w.cell? ⟨blk, off + i, none⟩).getD undef)).oneCell' = true
          rw [h4]; exact h5
        · obtain ⟨hi, rfl⟩ := hget i u h2
          rw [List.getElem?_take, if_pos hi] at h1
          obtain ⟨x, v, h3, h4, _, h6⟩ := hcell i hi
          rw [h3] at h1
          injection h1 with h1
          show VRel c y ((c.w.cell? ⟨blk, off + i, none⟩).getD undef)
          rw [h4, ← h1]; exact h6
    · rw [if_neg hl] at hx; cases hx
  · rw [if_neg hd] at hx
    obtain ⟨v, h1, _, h3⟩ := hc 0 x hx
    refine ⟨v, ?_, h3⟩
    unfold loadVar
    have hd' : ti.kind.agg = false := by simpa using hd
    rw [Nat.add_zero] at h1
    simp [run_isAgg c.w ht, hd', h1]

theorem nm_takeAs {ti : TI} {cells : List AVal} {x : AVal} {p : Nat → Prop} (hx : takeAs ti cells = some x) (h : ∀ y, y ∈ cells → Nm p y) : Nm p x := by
  unfold takeAs at hx
  by_cases hd : ti.kind.agg = true
  · rw [if_pos hd] at hx
    by_cases hl : ti.size ≤ cells.length
    · rw [if_pos hl] at hx
      injection hx with hx
      exact hx ▸ .agg _ fun y hy => h y (List.mem_of_mem_take hy)
    · rw [if_neg hl] at hx; cases hx
  · rw [if_neg hd] at hx
    exact h x (List.mem_of_getElem? hx)

/-- The cells that a pointer points to. -/
def cellsFrom (h : Heap) : AVal → Option (List AVal)
  | .fp cells => some cells
  | .ptr id sz row col =>
    match lk h id with
    | some (.arr _ rows) => if rows.length = sz then (rows[row]?).map (·.drop col) else none
    | _ => none
  | _ => none

theorem cellsFrom_ok {ext : Nat → Prop} {β : Nat → Option Nat} {p : Nat → Prop} {h : Heap} {w : World} (hin : HIn ext β p h w) {x : AVal} {v : Value} (hv : VRel (cx ext β h w) x v) (hn : Nm p x)
    {cells : List AVal} (hc : cellsFrom h x = some cells) :
    ∃ blk off, v = .pointer (some ⟨blk, off, none⟩) ∧ CellsAt (cx ext β h w) blk off cells ∧ ∀ y, y ∈ cells → Nm p y := by
  cases hv <;> simp only [cellsFrom] at hc <;> try (cases hc; done)
  case fp cells' blk off vals hcell hrel =>
    injection hc with hc
    subst hc
    cases hn with | fp _ hn =>
    exact ⟨blk, off, rfl, fun j x hx => ⟨vals j, (hcell j x hx).2.1, (hcell j x hx).2.2, hrel j x hx⟩, hn⟩
  case ptr id sz row col ad hok =>
    split at hc
    case h_2 => cases hc
    rename_i esz rows hl
    split at hc
    case isFalse => cases hc
    rename_i hsz
    rw [Option.map_eq_some_iff] at hc
    obtain ⟨r, hr, rfl⟩ := hc
    obtain ⟨_, h2⟩ := hok esz rows hl
    obtain ⟨b, hb, rfl⟩ := h2 hsz.symm
    obtain ⟨_, h4⟩ := hin.ob id _ hl
    have hb' : (cx ext β h w).β id = some b := hb
    rw [hb'] at h4
    obtain ⟨cs, e, h5, _, h7⟩ := h4
    refine ⟨b, row * esz + col, rfl, fun j x hx => ?_, fun y hy => (hin.nm id _ hl).2 r (List.mem_of_getElem? hr) y (List.mem_of_mem_drop hy)⟩
    rw [List.getElem?_drop] at hx
    obtain ⟨v, h8, h9, h10⟩ := h7 row r (col + j) x hr hx
    refine ⟨v, ?_, h9, h10⟩
    have h5' : w.heap[b]? = some (.cells cs e (0, 0)) := h5
    show w.cell? ⟨b, row * esz + col + j, none⟩ = some v
    simp only [World.cell?, h5']
    rw [← h8]
    simp [Nat.add_assoc]

def aload (P : Program) (h : Heap) (t : TypeId) (x : AVal) : Option AVal :=
  match tab P t with
  | some ti => (cellsFrom h x).bind (takeAs ti)
  | none => none

theorem aload_ok {P : Program} {ext : Nat → Prop} {β : Nat → Option Nat} {p : Nat → Prop} {h : Heap} {w : World} (hin : HIn ext β p h w) {t : TypeId} {x y : AVal} {v : Value}
    (hv : VRel (cx ext β h w) x v) (hn : Nm p x) (hy : aload P h t x = some y) : ∃ u, (Instr.loadAt t v).run P w = .ok u w ∧ VRel (cx ext β h w) y u ∧ Nm p y := by
  unfold aload at hy
  cases ht : tab P t with
  | none => rw [ht] at hy; cases hy
  | some ti =>
    rw [ht] at hy
    obtain ⟨cells, hc, ht'⟩ := Option.bind_eq_some_iff.1 hy
    obtain ⟨blk, off, rfl, h1, h2⟩ := cellsFrom_ok hin hv hn hc
    obtain ⟨u, h3, h4⟩ := run_loadVar ht h1 ht'
    have h3' : (loadVar t ⟨blk, off, none⟩).run P w = .ok u w := h3
    exact ⟨u, by simpa [Instr.loadAt, Instr.sureAddr] using h3', h4, nm_takeAs ht' h2⟩

end Go.AM
end

section
namespace Go.AM
open Go

/-- May structs of the type be compared without more ado? -/
def eqok (P : Program) (t : TypeId) : Bool := !P.stoodInHeld t && !P.eqGuardType P.depth t

def band (k : IntKind) (a b : Int) : Int := k.wrap (BitVec.ofInt k.bits a &&& BitVec.ofInt k.bits b).toNat
def bor (k : IntKind) (a b : Int) : Int := k.wrap (BitVec.ofInt k.bits a ||| BitVec.ofInt k.bits b).toNat
def bxor (k : IntKind) (a b : Int) : Int := k.wrap (BitVec.ofInt k.bits a ^^^ BitVec.ofInt k.bits b).toNat
def bclr (k : IntKind) (a b : Int) : Int := k.wrap (BitVec.ofInt k.bits a &&& ~~~BitVec.ofInt k.bits b).toNat

def aint (op : BinOp) (k : IntKind) (a b : Int) : Option AVal :=
  match op with
  | .add => some (.int k (k.wrap (a + b)))
  | .sub => some (.int k (k.wrap (a - b)))
  | .mul => some (.int k (k.wrap (a * b)))
  | .quo => if b = 0 then none else some (.int k (k.wrap (a.tdiv b)))
  | .rem => if b = 0 then none else some (.int k (a.tmod b))
  | .and => some (.int k (band k a b))
  | .or => some (.int k (bor k a b))
  | .xor => some (.int k (bxor k a b))
  | .andNot => some (.int k (bclr k a b))
  | .eql => some (.bool (a == b))
  | .neq => some (.bool (a != b))
  | .lss => some (.bool (a < b))
  | .leq => some (.bool (a ≤ b))
  | .gtr => some (.bool (a > b))
  | .geq => some (.bool (a ≥ b))
  | _ => none

def ashift (op : BinOp) (k : IntKind) (a b : Int) : Option AVal :=
  if b < 0 then none else
  match op with
  | .shl => some (.int k (k.wrap (a * 2 ^ (min b.toNat k.bits))))
  | .shr => some (.int k (a.fdiv (2 ^ (min b.toNat k.bits))))
  | _ => none

def astr (op : BinOp) (x y : ByteArray) : Option AVal :=
  match op with
  | .add => if x.size + y.size ≤ 4611686018427387904 then some (.str (x ++ y)) else none
  | .eql => some (.bool (x.toList == y.toList))
  | .neq => some (.bool !(x.toList == y.toList))
  | .lss => some (.bool (Op.bytesLess x.toList y.toList))
  | .leq => some (.bool (Op.bytesLess x.toList y.toList || x.toList == y.toList))
  | .gtr => some (.bool !(Op.bytesLess x.toList y.toList || x.toList == y.toList))
  | .geq => some (.bool !Op.bytesLess x.toList y.toList)
  | _ => none

/-- A part of a struct's or an array's cells. -/
def apart (agg : Bool) (size : Nat) (cells : List AVal) (off : Nat) : Option AVal :=
  if agg then (if off + size ≤ cells.length then some (.agg ((cells.drop off).take size)) else none) else cells[off]?

/-- Fields, one by one. -/
def aeqs (F : TypeId → AVal → AVal → Option Bool) : List Fld → List AVal → List AVal → Option Bool
  | [], _, _ => some true
  | f :: fs, xs, ys =>
    if f.blank then aeqs F fs xs ys else
    match apart f.agg f.size xs f.off, apart f.agg f.size ys f.off with
    | some a, some b =>
      match F f.type a b with
      | some r => match aeqs F fs xs ys with | some r' => some (r && r') | none => none
      | none => none
    | _, _ => none

def aeq (P : Program) : Nat → TypeId → AVal → AVal → Option Bool
  | 0, _, _, _ => none
  | d + 1, t, x, y =>
    match x, y with
    | .bool a, .bool b => match tab P t with | some ⟨.bool, _, _, _⟩ => some (a == b) | _ => none
    | .int k a, .int k' b => match tab P t with | some ⟨.int _, _, _, _⟩ => if k = k' then some (a == b) else none | _ => none
    | .str a, .str b => match tab P t with | some ⟨.str, _, _, _⟩ => some (a.toList == b.toList) | _ => none
    | .agg xs, .agg ys => match tab P t with | some ⟨.struct fs, _, _, _⟩ => if P.stoodInHeld t then none else aeqs (aeq P d) fs xs ys | _ => none
    | _, _ => none

/-- '==' of what is neither a number nor a text. -/
def aequal (P : Program) (t : TypeId) (x y : AVal) : Option Bool :=
  match x, y with
  | .bool a, .bool b => match tab P t with | some ⟨.bool, _, _, _⟩ => some (a == b) | _ => none
  | .agg xs, .agg ys => if P.eqGuardType P.depth t then none else aeq P 10000 t (.agg xs) (.agg ys)
  | .nilp, .nilp => match tab P t with | some ⟨.ptr _, _, _, _⟩ => some true | _ => none
  | .ptr _ _ _ _, .nilp => match tab P t with | some ⟨.ptr _, _, _, _⟩ => some false | _ => none
  | .fp _, .nilp => match tab P t with | some ⟨.ptr _, _, _, _⟩ => some false | _ => none
  | .iface _ _, .nilIface => match tab P t with | some ⟨.iface _, _, _, _⟩ => some false | _ => none
  | _, _ => none

def abin1 (op : BinOp) (k : IntKind) (a : Int) (k' : IntKind) (b : Int) : Option AVal :=
  match op with
  | .shl => ashift .shl k a b
  | .shr => ashift .shr k a b
  | _ => if k = k' then aint op k a b else none

def abin2 (P : Program) (op : BinOp) (t : TypeId) (x y : AVal) : Option AVal :=
  match op with
  | .eql => (aequal P t x y).map .bool
  | .neq => (aequal P t x y).map fun b => .bool !b
  | _ => none

def abin (P : Program) (op : BinOp) (t : TypeId) (x y : AVal) : Option AVal :=
  match x, y with
  | .int k a, .int k' b => abin1 op k a k' b
  | .str a, .str b => astr op a b
  | x, y => abin2 P op t x y

theorem run_part {P : Program} {t : TypeId} {ti : TI} (ht : tab P t = some ti) {c : Cx} {cells : List AVal} {vs : Array Value} (hlen : vs.size = cells.length)
    (hone : ∀ (i : Nat) v, vs[i]? = some v → v.oneCell' = true) (hrel : ∀ (i : Nat) x v, cells[i]? = some x → vs[i]? = some v → VRel c x v) {off : Nat} {x : AVal}
    (hx : apart ti.kind.agg ti.size cells off = some x) (w : World) : ∃ v, (part t vs off).run P w = .ok v w ∧ VRel c x v := by
  unfold apart at hx
  by_cases hd : ti.kind.agg = true
  · rw [if_pos hd] at hx
    split at hx
    case isFalse => cases hx
    rename_i hl
    injection hx with hx
    refine ⟨.agg (vs.extract off (off + ti.size)), by simp [part, run_isAgg w ht, hd, run_size w ht], ?_⟩
    subst hx
    have hg : ∀ (i : Nat) u, (vs.extract off (off + ti.size))[i]? = some u → i < ti.size ∧ vs[off + i]? = some u := fun i u hu => by
      have hlt := (Array.getElem?_eq_some_iff.1 hu).1
      simp at hlt
      have he := Array.getElem?_extract (xs := vs) (start := off) (stop := off + ti.size) (i := i)
      by_cases hc : i < min (off + ti.size) vs.size - off
      · rw [if_pos hc] at he
        exact ⟨by omega, he ▸ hu⟩
      · rw [if_neg hc] at he
        rw [he] at hu
        cases hu
    refine .agg _ _ (by simp; omega) (fun i u hu => hone _ _ (hg i u hu).2) fun i y u h1 h2 => ?_
    obtain ⟨hi, h3⟩ := hg i u h2
    rw [List.getElem?_take, if_pos hi, List.getElem?_drop] at h1
    exact hrel _ _ _ h1 h3
  · rw [if_neg hd] at hx
    have hd' : ti.kind.agg = false := by simpa using hd
    have hlt : off < vs.size := by rw [hlen]; exact (List.getElem?_eq_some_iff.1 hx).1
    refine ⟨vs[off], ?_, hrel off x _ hx (Array.getElem?_eq_getElem hlt)⟩
    simp [part, run_isAgg w ht, hd', Array.getElem?_eq_getElem hlt]

theorem nm_apart {agg : Bool} {size : Nat} {cells : List AVal} {off : Nat} {x : AVal} {p : Nat → Prop} (hx : apart agg size cells off = some x) (h : ∀ y, y ∈ cells → Nm p y) : Nm p x := by
  unfold apart at hx
  split at hx
  · split at hx
    · injection hx with hx
      exact hx ▸ .agg _ fun y hy => h y (List.mem_of_mem_drop (List.mem_of_mem_take hy))
    · cases hx
  · exact h x (List.mem_of_getElem? hx)

theorem kind_struct {P : Program} {t : TypeId} {fs : List Fld} (h : ∃ ti, tab P t = some ti ∧ ti.kind = .struct fs) :
    ∃ gs : Array Field, P.underlying t = some (.struct gs) ∧ gs.toList.mapM (fun f => (P.info? f.type).bind fun i => (P.underlying f.type).map fun d => { off := f.offset, size := i.size, agg := aggD d, type := f.type, blank := f.name == "_" : Fld }) = some fs := by
  obtain ⟨ti, h1, h2⟩ := h
  obtain ⟨i, d, z, _, h4, _, h6, _⟩ := tab_spec h1
  rw [h2] at h6
  cases d <;> simp [kindOf] at h6
  rename_i gs
  exact ⟨gs, h4, h6⟩

theorem mapM_cons_some {α β : Type} {f : α → Option β} {a : α} {l : List α} {r : List β} (h : (a :: l).mapM f = some r) : ∃ b bs, f a = some b ∧ l.mapM f = some bs ∧ r = b :: bs := by
  simp only [List.mapM_cons, Option.bind_eq_bind, Option.pure_def] at h
  obtain ⟨b, hb, h⟩ := Option.bind_eq_some_iff.1 h
  obtain ⟨bs, hbs, h⟩ := Option.bind_eq_some_iff.1 h
  injection h with h
  exact ⟨b, bs, hb, hbs, h.symm⟩

/-- A part of an aggregate by a field's row. -/
theorem run_part' {P : Program} {t : TypeId} {i : TypeInfo} {d : TypeDesc} (hi : P.info? t = some i) (hd : P.underlying t = some d) {c : Cx} {cells : List AVal} {vs : Array Value} (hlen : vs.size = cells.length)
    (hone : ∀ (i : Nat) v, vs[i]? = some v → v.oneCell' = true) (hrel : ∀ (i : Nat) x v, cells[i]? = some x → vs[i]? = some v → VRel c x v) {off : Nat} {x : AVal}
    (hx : apart (aggD d) i.size cells off = some x) (w : World) : ∃ v, (part t vs off).run P w = .ok v w ∧ VRel c x v := by
  have ha : (isAgg t).run P w = .ok (aggD d) w := by
    unfold isAgg
    rw [Sem.run_bind, run_underlying hd]
    cases d <;> simp [aggD]
  have hs : (sizeOf t).run P w = .ok i.size w := by simp [sizeOf, typeInfo, hi]
  unfold apart at hx
  by_cases hdd : aggD d = true
  · rw [if_pos hdd] at hx
    split at hx
    case isFalse => cases hx
    rename_i hl
    injection hx with hx
    refine ⟨.agg (vs.extract off (off + i.size)), by simp [part, ha, hdd, hs], ?_⟩
    subst hx
    have hg : ∀ (j : Nat) u, (vs.extract off (off + i.size))[j]? = some u → j < i.size ∧ vs[off + j]? = some u := fun j u hu => by
      have hlt := (Array.getElem?_eq_some_iff.1 hu).1
      simp at hlt
      have he := Array.getElem?_extract (xs := vs) (start := off) (stop := off + i.size) (i := j)
      by_cases hc : j < min (off + i.size) vs.size - off
      · rw [if_pos hc] at he
        exact ⟨by omega, he ▸ hu⟩
      · rw [if_neg hc] at he
        rw [he] at hu
        cases hu
    refine .agg _ _ (by simp; omega) (fun j u hu => hone _ _ (hg j u hu).2) fun j y u h1 h2 => ?_
    obtain ⟨hj, h3⟩ := hg j u h2
    rw [List.getElem?_take, if_pos hj, List.getElem?_drop] at h1
    exact hrel _ _ _ h1 h3
  · rw [if_neg hdd] at hx
    have hd' : aggD d = false := by simpa using hdd
    have hlt : off < vs.size := by rw [hlen]; exact (List.getElem?_eq_some_iff.1 hx).1
    refine ⟨vs[off], ?_, hrel off x _ hx (Array.getElem?_eq_getElem hlt)⟩
    simp [part, ha, hd', Array.getElem?_eq_getElem hlt]

theorem tab_kind {P : Program} {t : TypeId} {k : TK} {n m : Nat} {z : AVal} (h : tab P t = some ⟨k, n, m, z⟩) : ∃ d, P.underlying t = some d ∧ kindOf P d = some k :=
  let ⟨_, d, _, _, h2, _, h4, _⟩ := tab_spec h; ⟨d, h2, h4⟩

theorem und_bool {P : Program} {t : TypeId} {n m : Nat} {z : AVal} (h : tab P t = some ⟨.bool, n, m, z⟩) : P.underlying t = some .bool := by
  obtain ⟨d, h1, h2⟩ := tab_kind h
  cases d <;> simp [kindOf] at h2
  exact h1

theorem und_int {P : Program} {t : TypeId} {k : IntKind} {n m : Nat} {z : AVal} (h : tab P t = some ⟨.int k, n, m, z⟩) : P.underlying t = some (.int k) := by
  obtain ⟨d, h1, h2⟩ := tab_kind h
  cases d <;> simp [kindOf] at h2
  exact h2 ▸ h1

theorem und_str {P : Program} {t : TypeId} {n m : Nat} {z : AVal} (h : tab P t = some ⟨.str, n, m, z⟩) : P.underlying t = some .string := by
  obtain ⟨d, h1, h2⟩ := tab_kind h
  cases d <;> simp [kindOf] at h2
  exact h1

theorem und_ptr {P : Program} {t e : TypeId} {n m : Nat} {z : AVal} (h : tab P t = some ⟨.ptr e, n, m, z⟩) : P.underlying t = some (.pointer e) := by
  obtain ⟨d, h1, h2⟩ := tab_kind h
  cases d <;> simp [kindOf] at h2
  exact h2 ▸ h1

theorem und_slice {P : Program} {t e : TypeId} {n m : Nat} {z : AVal} (h : tab P t = some ⟨.slice e, n, m, z⟩) : P.underlying t = some (.slice e) := by
  obtain ⟨d, h1, h2⟩ := tab_kind h
  cases d <;> simp [kindOf] at h2
  exact h2 ▸ h1

theorem und_array {P : Program} {t e : TypeId} {l n m : Nat} {z : AVal} (h : tab P t = some ⟨.array l e, n, m, z⟩) : P.underlying t = some (.array l e) := by
  obtain ⟨d, h1, h2⟩ := tab_kind h
  cases d <;> simp [kindOf] at h2
  obtain ⟨rfl, rfl⟩ := h2
  exact h1

theorem und_map {P : Program} {t k e : TypeId} {n m : Nat} {z : AVal} (h : tab P t = some ⟨.map k e, n, m, z⟩) : P.underlying t = some (.map k e) := by
  obtain ⟨d, h1, h2⟩ := tab_kind h
  cases d <;> simp [kindOf] at h2
  obtain ⟨rfl, rfl⟩ := h2
  exact h1

theorem und_iface {P : Program} {t : TypeId} {l n m : Nat} {z : AVal} (h : tab P t = some ⟨.iface l, n, m, z⟩) : ∃ ms, P.underlying t = some (.interface ms) := by
  obtain ⟨d, h1, h2⟩ := tab_kind h
  cases d <;> simp [kindOf] at h2
  rename_i ms
  exact ⟨ms, h1⟩

theorem eqFields_ok {P : Program} (c : Cx) (w : World) (d : Nat)
    (hF : ∀ (t : TypeId) (x y : AVal) (v u : Value) (b : Bool), VRel c x v → VRel c y u → aeq P d t x y = some b → (Op.equalIn d t v u).run P w = .ok b w) :
    ∀ (gs : List Field) (fs : List Fld) (xs ys : List AVal) (vs us : Array Value) (b : Bool),
      gs.mapM (fun f => (P.info? f.type).bind fun i => (P.underlying f.type).map fun d => { off := f.offset, size := i.size, agg := aggD d, type := f.type, blank := f.name == "_" : Fld }) = some fs →
      VRel c (.agg xs) (.agg vs) → VRel c (.agg ys) (.agg us) → aeqs (aeq P d) fs xs ys = some b → (Op.eqFields d vs us gs).run P w = .ok b w := by
  intro gs
  induction gs with
  | nil => intro fs xs ys vs us b hm _ _ h; simp at hm; subst hm; simp [aeqs] at h; subst h; simp [Op.eqFields]
  | cons g gs ih =>
    intro fs xs ys vs us b hm hx hy h
    obtain ⟨f, fs', hf, hfs, rfl⟩ := mapM_cons_some hm
    obtain ⟨i, hi, hf⟩ := Option.bind_eq_some_iff.1 hf
    obtain ⟨dd, hd, hf⟩ := Option.map_eq_some_iff.1 hf
    subst hf
    simp only [aeqs] at h
    by_cases hb : (g.name == "_") = true
    · rw [if_pos hb] at h
      have : ¬ g.name ≠ "_" := by simpa using hb
      simp only [Op.eqFields, if_neg this]
      exact ih fs' xs ys vs us b hfs hx hy h
    · rw [if_neg hb] at h
      have hne : g.name ≠ "_" := by simpa using hb
      split at h
      case h_2 => cases h
      rename_i a a' h1 h2
      split at h
      case h_2 => cases h
      rename_i r h3
      split at h
      case h_2 => cases h
      rename_i r' h4
      injection h with h
      have hx0 := hx
      have hy0 := hy
      cases hx with | agg _ _ l1 o1 r1 =>
      cases hy with | agg _ _ l2 o2 r2 =>
      obtain ⟨p1, q1, q2⟩ := run_part' hi hd l1 o1 r1 h1 w
      obtain ⟨p2, q3, q4⟩ := run_part' hi hd l2 o2 r2 h2 w
      have q5 := hF _ _ _ _ _ _ q2 q4 h3
      simp only [Op.eqFields, if_pos hne, Sem.run_bind, q1, q3, Result.andThen_ok, q5]
      cases r with
      | false => subst h; simp
      | true =>
        simp only [Bool.not_true, Bool.false_eq_true, if_false, Bool.true_and] at h ⊢
        subst h
        exact ih fs' xs ys vs us r' hfs hx0 hy0 h4

/-- Equality of what is made of numbers, texts and structs. -/
theorem aeq_ok {P : Program} (c : Cx) (w : World) : ∀ (d : Nat) (t : TypeId) (x y : AVal) (v u : Value) (b : Bool),
    VRel c x v → VRel c y u → aeq P d t x y = some b → (Op.equalIn d t v u).run P w = .ok b w := by
  intro d
  induction d with
  | zero => exact fun t x y v u b _ _ h => by simp [aeq] at h
  | succ d ihd =>
    intro t x y v u b hx hy h
    cases hx <;> cases hy <;> simp only [aeq] at h <;> try (cases h; done)
    case bool.bool b1 b2 =>
      split at h
      case h_2 => cases h
      rename_i ht
      injection h with h
      subst h
      exact run_equalIn_bool' w d t b1 b2 (und_bool ht)
    case int.int k n k' n' =>
      split at h
      case h_2 => cases h
      rename_i ht
      split at h
      case isFalse => cases h
      rename_i hk
      subst hk
      injection h with h
      subst h
      exact run_equalIn_int w d t k _ n n' (und_int ht)
    case str.str s s' =>
      split at h
      case h_2 => cases h
      rename_i ht
      injection h with h
      subst h
      exact run_equalIn_string w d t s s' (und_str ht)
    case agg.agg xs vs l1 o1 r1 ys us l2 o2 r2 =>
      split at h
      case h_2 => cases h
      rename_i fs _ _ _ ht
      split at h
      case isTrue => cases h
      rename_i hst
      obtain ⟨gs, hg, hm⟩ := kind_struct ⟨_, ht, rfl⟩
      have hgf : P.fieldsOf t = gs := by unfold Program.fieldsOf; rw [hg]
      rw [run_equalIn_struct w d t vs us (by rw [hgf]; exact hg) (by simpa using hst), hgf]
      exact eqFields_ok c w d ihd gs.toList fs xs ys vs us b hm (.agg xs vs l1 o1 r1) (.agg ys us l2 o2 r2) h

theorem run_eq_nilp {P : Program} (w : World) (d : Nat) {t e : TypeId} (h : P.underlying t = some (.pointer e)) (a : Option Addr) :
    (Op.equalIn (d + 1) t (.pointer none) (.pointer a)).run P w = .ok a.isNone w := by
  simp [Op.equalIn, run_underlying h]

theorem run_eq_pnil {P : Program} (w : World) (d : Nat) {t e : TypeId} (h : P.underlying t = some (.pointer e)) (a : Addr) :
    (Op.equalIn (d + 1) t (.pointer (some a)) (.pointer none)).run P w = .ok false w := by
  simp [Op.equalIn, run_underlying h]

theorem run_eq_ifnil {P : Program} (w : World) (d : Nat) {t : TypeId} {ms : Array (String × TypeId)} (h : P.underlying t = some (.interface ms)) (u : TypeId) (v : Value) :
    (Op.equalIn (d + 1) t (.iface u v) .nilIface).run P w = .ok false w := by
  simp [Op.equalIn, run_underlying h]

theorem aequal_ok {P : Program} (c : Cx) (w : World) {t : TypeId} {x y : AVal} {v u : Value} {b : Bool} (hx : VRel c x v) (hy : VRel c y u) (h : aequal P t x y = some b) (ox oy : Operand) (op : BinOp) :
    (eqGuard op t ox oy v u).run P w = .ok () w ∧ (Op.equal t v u).run P w = .ok b w := by
  cases hx <;> cases hy <;> simp only [aequal] at h <;> try (cases h; done)
  case bool.bool b1 b2 =>
    split at h
    case h_2 => cases h
    rename_i ht
    injection h with h
    subst h
    exact ⟨by cases op <;> simp [eqGuard], run_equalIn_bool' w 9999 t b1 b2 (und_bool ht)⟩
  case agg.agg xs vs l1 o1 r1 ys us l2 o2 r2 =>
    split at h
    case isTrue => cases h
    rename_i hg
    exact ⟨run_eqGuard_agg w op t ox oy vs us (by simpa using hg), aeq_ok c w 10000 t _ _ _ _ b (.agg xs vs l1 o1 r1) (.agg ys us l2 o2 r2) h⟩
  case nilp.nilp =>
    split at h
    case h_2 => cases h
    rename_i ht
    injection h with h
    subst h
    exact ⟨by cases op <;> simp [eqGuard], run_eq_nilp w 9999 (und_ptr ht) none⟩
  case ptr.nilp =>
    split at h
    case h_2 => cases h
    rename_i ht
    injection h with h
    subst h
    exact ⟨by cases op <;> simp [eqGuard], run_eq_pnil w 9999 (und_ptr ht) _⟩
  case fp.nilp =>
    split at h
    case h_2 => cases h
    rename_i ht
    injection h with h
    subst h
    exact ⟨by cases op <;> simp [eqGuard], run_eq_pnil w 9999 (und_ptr ht) _⟩
  case iface.nilIface =>
    split at h
    case h_2 => cases h
    rename_i ht
    injection h with h
    subst h
    obtain ⟨ms, hms⟩ := und_iface ht
    exact ⟨by cases op <;> simp [eqGuard], run_eq_ifnil w 9999 hms _ _⟩

theorem aint_ok {P : Program} (c : Cx) (w : World) {op : BinOp} (t : TypeId) {k : IntKind} {a b : Int} {z : AVal} (h : aint op k a b = some z) (ox oy : Operand) :
    ∃ r, (do eqGuard op t ox oy (.int k a) (.int k b); binOp op t (.int k a) (.int k b) : Sem Value).run P w = .ok r w ∧ VRel c z r ∧ Fz z := by
  cases op <;> simp only [aint] at h <;> try (cases h; done)
  case quo =>
    split at h
    · cases h
    · rename_i hb
      injection h with h
      subst h
      exact ⟨_, by simp [eqGuard, binOp, Op.intDiv, hb], .int _ _, .int _ _⟩
  case rem =>
    split at h
    · cases h
    · rename_i hb
      injection h with h
      subst h
      exact ⟨_, by simp [eqGuard, binOp, Op.intDiv, hb], .int _ _, .int _ _⟩
  all_goals
    injection h with h
    subst h
    first
      | exact ⟨_, by simp [eqGuard, binOp, Op.intArith, Op.intBits, band, bor, bxor, bclr], .int _ _, .int _ _⟩
      | exact ⟨_, by simp [eqGuard, binOp, Op.intCmp], .bool _, .bool _⟩

theorem ashift_ok {P : Program} (c : Cx) (w : World) {op : BinOp} (t : TypeId) {k k' : IntKind} {a b : Int} {z : AVal} (h : ashift op k a b = some z) (ox oy : Operand) :
    ∃ r, (do eqGuard op t ox oy (.int k a) (.int k' b); binOp op t (.int k a) (.int k' b) : Sem Value).run P w = .ok r w ∧ VRel c z r ∧ Fz z := by
  unfold ashift at h
  split at h
  · cases h
  rename_i hb
  cases op <;> simp only [] at h <;> try (cases h; done)
  all_goals
    injection h with h
    subst h
    exact ⟨_, by simp [eqGuard, binOp, Op.shift, hb], .int _ _, .int _ _⟩

theorem astr_ok {P : Program} (c : Cx) (w : World) {op : BinOp} (t : TypeId) {x y : ByteArray} {z : AVal} (h : astr op x y = some z) (ox oy : Operand) :
    ∃ r, (do eqGuard op t ox oy (.string x) (.string y); binOp op t (.string x) (.string y) : Sem Value).run P w = .ok r w ∧ VRel c z r ∧ Fz z := by
  cases op <;> simp only [astr] at h <;> try (cases h; done)
  case add =>
    split at h
    case isFalse => cases h
    rename_i hb
    injection h with h
    subst h
    have hb' : ¬ (((x.size + y.size : Nat) : Int) > IntKind.i64.max) := by
      have : IntKind.i64.max = 9223372036854775807 := rfl
      omega
    exact ⟨.string (x ++ y), by simp only [eqGuard, binOp, Op.stringOp, if_neg hb', Sem.run_bind]; simp, .str _, .str _⟩
  all_goals
    injection h with h
    subst h
    exact ⟨_, by simp only [eqGuard, binOp, Op.stringOp, Sem.run_bind]; simp, .bool _, .bool _⟩

theorem abin_ok {P : Program} (c : Cx) (w : World) {op : BinOp} {t : TypeId} {x y z : AVal} {v u : Value} (hx : VRel c x v) (hy : VRel c y u) (h : abin P op t x y = some z) (ox oy : Operand) :
    ∃ r, (do eqGuard op t ox oy v u; binOp op t v u : Sem Value).run P w = .ok r w ∧ VRel c z r ∧ Fz z := by
  have hgen : ∀ (b : Bool) (x y : AVal) (v u : Value), VRel c x v → VRel c y u → aequal P t x y = some b →
      ((∃ r, (do eqGuard .eql t ox oy v u; binOp .eql t v u : Sem Value).run P w = .ok r w ∧ VRel c (.bool b) r ∧ Fz (.bool b)) ∧
       (∃ r, (do eqGuard .neq t ox oy v u; binOp .neq t v u : Sem Value).run P w = .ok r w ∧ VRel c (.bool !b) r ∧ Fz (.bool !b))) := by
    intro b x y v u hx hy he
    have hq : ∀ op, (eqGuard op t ox oy v u).run P w = .ok () w ∧ (Op.equal t v u).run P w = .ok b w := fun op => aequal_ok c w hx hy he ox oy op
    have h1 : (binOp .eql t v u) = (do pure (.bool (← Op.equal t v u))) ∧ (binOp .neq t v u) = (do pure (.bool (!(← Op.equal t v u)))) := by
      cases hx <;> cases hy <;> simp only [aequal] at he <;> first | (cases he; done) | exact ⟨rfl, rfl⟩
    refine ⟨⟨.bool b, ?_, .bool _, .bool _⟩, ⟨.bool !b, ?_, .bool _, .bool _⟩⟩
    · simp [(hq .eql).1, h1.1, (hq .eql).2]
    · simp [(hq .neq).1, h1.2, (hq .neq).2]
  unfold abin at h
  split at h
  · rename_i k a k' b
    cases hx; cases hy
    unfold abin1 at h
    split at h
    · exact ashift_ok c w t h ox oy
    · exact ashift_ok c w t h ox oy
    · split at h
      case isFalse => cases h
      rename_i hk
      subst hk
      exact aint_ok c w t h ox oy
  · cases hx; cases hy
    exact astr_ok c w t h ox oy
  · unfold abin2 at h
    cases op <;> simp only [] at h <;> try (cases h; done)
    · obtain ⟨b, hb, rfl⟩ := Option.map_eq_some_iff.1 h
      exact (hgen b _ _ v u hx hy hb).1
    · obtain ⟨b, hb, rfl⟩ := Option.map_eq_some_iff.1 h
      exact (hgen b _ _ v u hx hy hb).2

end Go.AM
end

section
namespace Go.AM
open Go

/-- An operation of the machine goes as it does over the abstract heap. -/
def Out (P : Program) (ext : Nat → Prop) (β : Nat → Option Nat) (p : Nat → Prop) (h : Heap) (w : World) (fresh : Nat) (s : Sem Next) (x : AVal) (h' : Heap) : Prop :=
  ∃ r v w' β', s.run P w = .ok r w' ∧ (r = .value v ∨ r = .skip ∧ v = undef) ∧ HIn ext β' (fun j => p j ∨ j = fresh) h' w' ∧ VRel (cx ext β' h' w') x v ∧ Nm (fun j => p j ∨ j = fresh) x ∧
    Evo (owns β h) w (owns β' h') w' ∧ Step p (cx ext β h w) (cx ext β' h' w')

theorem Ob.nm_mono {p q : Nat → Prop} (hpq : ∀ j, p j → q j) {o : Ob} (h : o.nm p) : o.nm q := by
  cases o with
  | arr esz rows => exact fun r hr y hy => (h r hr y hy).mono hpq
  | mp es => exact fun e he => ⟨(h e he).1.mono hpq, (h e he).2.mono hpq⟩

theorem HIn.mono {ext : Nat → Prop} {β : Nat → Option Nat} {p q : Nat → Prop} {h : Heap} {w : World} (hpq : ∀ j, p j → q j) (i : HIn ext β p h w) : HIn ext β q h w :=
  ⟨i.ob, fun id o ho => ⟨hpq _ (i.nm id o ho).1, Ob.nm_mono hpq (i.nm id o ho).2⟩, i.inj, i.ext⟩

section outs
variable {P : Program} {ext : Nat → Prop} {β : Nat → Option Nat} {p : Nat → Prop} {h : Heap} {w : World} {fresh : Nat}

/-- Nothing changes. -/
theorem out_pure (hin : HIn ext β p h w) {s : Sem Next} {x : AVal} {v : Value} (hr : s.run P w = .ok (.value v) w) (hv : VRel (cx ext β h w) x v) (hn : Nm p x) : Out P ext β p h w fresh s x h :=
  ⟨.value v, v, w, β, hr, .inl rfl, hin.mono fun _ => .inl, hv, hn.mono fun _ => .inl, Evo.refl _ _, Step.refl _ _⟩

/-- A draw changes nothing. -/
theorem HIn.drawn (hin : HIn ext β p h w) (n : Nat) : HIn ext β p h { w with drawn := n } ∧ Evo (owns β h) w (owns β h) { w with drawn := n } ∧ ∀ q, Step q (cx ext β h w) (cx ext β h { w with drawn := n }) := by
  have st : ∀ q, Step q (cx ext β h w) (cx ext β h { w with drawn := n }) := fun q =>
    ⟨fun _ _ _ h1 h2 => ⟨h1, h2⟩, fun _ _ h => h, fun _ _ _ rows h => ⟨rows, h, Nat.le_refl _, fun _ => rfl⟩, fun _ _ es h => ⟨es, h, rfl⟩⟩
  exact ⟨⟨fun id o ho => ObIn.step (st p) rfl (fun _ _ => rfl) (hin.nm id o ho).2 (hin.ob id o ho), hin.nm, hin.inj, hin.ext⟩, ⟨Nat.le_refl _, fun _ _ _ => rfl, fun _ _ h => h, fun _ _ h => h, rfl, rfl, rfl⟩, st⟩

/-- The block of a new object. -/
abbrev newβ (β : Nat → Option Nat) (fresh b : Nat) : Nat → Option Nat := fun j => if j = fresh then some b else β j

/-- A new row of cells. -/
theorem out_new (hin : HIn ext β p h w) (hpf : ¬ p fresh) {s : Sem Next} {w' : World} {vs : Array Value} {e : TypeId} {esz : Nat} {rows : List (List AVal)} {x : AVal} {v : Value}
    (hr : s.run P w = .ok (.value v) w') (hheap : w'.heap = w.heap.push (.cells vs e) ∧ w'.os = w.os ∧ w'.tape = w.tape ∧ w'.output = w.output) (hlen : ∀ r, r ∈ rows → r.length = esz) (hsz : rows.length * esz ≤ vs.size)
    (hrel : ∀ (i : Nat) r (j : Nat) y, rows[i]? = some r → r[j]? = some y → ∃ u, vs[i * esz + j]? = some u ∧ u.oneCell' = true ∧ VRel (cx ext β h w) y u)
    (hnm : ∀ r, r ∈ rows → ∀ y, y ∈ r → Nm p y)
    (hx : HIn ext (newβ β fresh w.heap.size) (fun j => p j ∨ j = fresh) ((fresh, .arr esz rows) :: h) w' → w'.shape? w.heap.size = some (e, vs.size) → VRel (cx ext (newβ β fresh w.heap.size) ((fresh, .arr esz rows) :: h) w') x v)
    (hn : Nm (fun j => p j ∨ j = fresh) x) : Out P ext β p h w fresh s x ((fresh, .arr esz rows) :: h) := by
  have hget : w'.heap[w.heap.size]? = some (.cells vs e (0, 0)) := by rw [hheap.1]; simp
  have key := HIn.new (w' := w') hin (id := fresh) (q := fun j => p j ∨ j = fresh) (ob := .arr esz rows) hpf (fun _ => .inl) (.inr rfl) hheap
    (fun r hr y hy => (hnm r hr y hy).mono fun _ => .inl)
    (fun st => by
      refine ⟨hlen, ?_⟩
      have : (cx ext (newβ β fresh w.heap.size) ((fresh, .arr esz rows) :: h) w').β fresh = some w.heap.size := by simp [cx]
      rw [this]
      refine ⟨vs, e, hget, hsz, fun i r j y h1 h2 => ?_⟩
      obtain ⟨u, h3, h4, h5⟩ := hrel i r j y h1 h2
      exact ⟨u, h3, h4, h5.step st (hnm r (List.mem_of_getElem? h1) y (List.mem_of_getElem? h2))⟩)
  obtain ⟨k1, k2, k3⟩ := key
  exact ⟨.value v, v, w', newβ β fresh w.heap.size, hr, .inl rfl, k1, hx k1 (by simp [World.shape?, hget]), hn, k2, k3⟩

end outs

/-! ### Cells of a value -/

def boxCells : AVal → Option (List AVal)
  | .agg cs => some cs
  | .junk => none
  | .tuple _ => none
  | x => some [x]

theorem boxCells_ok {c : Cx} {x : AVal} {v : Value} {cs : List AVal} (hv : VRel c x v) (hc : boxCells x = some cs) :
    v.cells.size = cs.length ∧ (∀ (i : Nat) u, v.cells[i]? = some u → u.oneCell' = true) ∧ (∀ (i : Nat) y u, cs[i]? = some y → v.cells[i]? = some u → VRel c y u) := by
  have one : ∀ (x : AVal) (v : Value), VRel c x v → v.oneCell' = true → v.cells = #[v] → v.cells.size = [x].length ∧ (∀ (i : Nat) u, v.cells[i]? = some u → u.oneCell' = true) ∧ (∀ (i : Nat) y u, [x][i]? = some y → v.cells[i]? = some u → VRel c y u) := by
    intro x v h1 h2 h3
    rw [h3]
    refine ⟨rfl, fun i u hu => ?_, fun i y u hy hu => ?_⟩
    · cases i with
      | zero => simp at hu; exact hu ▸ h2
      | succ i => simp at hu
    · cases i with
      | zero => simp at hu hy; exact hu ▸ hy ▸ h1
      | succ i => simp at hu
  have hv0 := hv
  cases hv <;> simp only [boxCells] at hc <;> try (cases hc; done)
  case agg cells vs l o r => injection hc with hc; subst hc; exact ⟨l, o, fun i y u h1 h2 => r i y u h1 h2⟩
  all_goals
    injection hc with hc
    subst hc
    exact one _ _ hv0 rfl rfl

theorem boxCells_nm {p : Nat → Prop} {x : AVal} {cs : List AVal} (hn : Nm p x) (hc : boxCells x = some cs) : ∀ y, y ∈ cs → Nm p y := by
  have hn0 := hn
  cases hn <;> simp only [boxCells] at hc <;> try (cases hc; done)
  case agg cells hh => injection hc with hc; subst hc; exact hh
  all_goals
    injection hc with hc
    subst hc
    intro y hy
    rw [List.mem_singleton] at hy
    exact hy ▸ hn0

section ops
variable {P : Program} {ext : Nat → Prop} {β : Nat → Option Nat} {p : Nat → Prop} {h : Heap} {w : World} {fresh : Nat}

/-- A variable of its own, with a value. -/
theorem out_box (hin : HIn ext β p h w) (hpf : ¬ p fresh) {s : Sem Next} {elem : TypeId} {x : AVal} {v : Value} {cs : List AVal} (hv : VRel (cx ext β h w) x v) (hn : Nm p x) (hc : boxCells x = some cs)
    (hs : s.run P w = ((newVar elem v).run P w).andThen fun a w' => .ok (.value (.pointer (some a))) w') : Out P ext β p h w fresh s (.ptr fresh 1 0 0) ((fresh, .arr cs.length [cs]) :: h) := by
  obtain ⟨h1, h2, h3⟩ := boxCells_ok hv hc
  have hrun : s.run P w = .ok (.value (.pointer (some ⟨w.heap.size, 0, none⟩))) { w with heap := w.heap.push (.cells v.cells elem) } := by
    rw [hs]; simp [newVar, newRow]
  refine out_new hin hpf hrun ⟨rfl, rfl, rfl, rfl⟩ (by simp) (by simp [h1]) (fun i r j y hi hj => ?_) ?_ (fun _ _ => ?_) (.ptr _ _ _ _ (.inr rfl))
  · cases i with
    | succ i => simp at hi
    | zero =>
      simp at hi
      subst hi
      have hj' : j < v.cells.size := by rw [h1]; exact (List.getElem?_eq_some_iff.1 hj).1
      exact ⟨v.cells[j], by simp [Array.getElem?_eq_getElem hj'], h2 j _ (Array.getElem?_eq_getElem hj'), h3 j y _ hj (Array.getElem?_eq_getElem hj')⟩
  · intro r hr y hy
    rw [List.mem_singleton] at hr
    subst hr
    exact boxCells_nm hn hc y hy
  · refine .ptr _ _ _ _ _ fun esz rows hl => ?_
    have hl' : lk ((fresh, .arr cs.length [cs]) :: h) fresh = some (.arr esz rows) := hl
    simp only [lk, if_true] at hl'
    injection hl' with hl'
    injection hl' with e1 e2
    subst e1 e2
    exact ⟨Nat.le_refl _, fun _ => ⟨w.heap.size, by simp [cx], by simp⟩⟩

def abox (h : Heap) (fresh : Nat) (x : AVal) : Option (AVal × Heap) :=
  match boxCells x with
  | some cs => some (.ptr fresh 1 0 0, (fresh, .arr cs.length [cs]) :: h)
  | none => none

theorem out_abox (hin : HIn ext β p h w) (hpf : ¬ p fresh) {s : Sem Next} {elem : TypeId} {x y : AVal} {v : Value} {h' : Heap} (hv : VRel (cx ext β h w) x v) (hn : Nm p x) (hy : abox h fresh x = some (y, h'))
    (hs : s.run P w = ((newVar elem v).run P w).andThen fun a w' => .ok (.value (.pointer (some a))) w') : Out P ext β p h w fresh s y h' := by
  unfold abox at hy
  split at hy
  case h_2 => cases hy
  rename_i cs hc
  injection hy with hy
  injection hy with e1 e2
  subst e1 e2
  exact out_box hin hpf hv hn hc hs

/-! ### A store -/

def astore (P : Program) (h : Heap) (t : TypeId) (x v : AVal) : Option Heap :=
  match tab P t, x, boxCells v with
  | some ti, .ptr id sz row col, some cs =>
    match lk h id with
    | some (.arr esz rows) =>
      if rows.length = sz then
        match rows[row]? with
        | some r => if cs.length = ti.size ∧ col + cs.length ≤ r.length then some (hset h id (.arr esz (rows.set row (r.take col ++ cs ++ r.drop (col + cs.length))))) else none
        | none => none
      else none
    | _ => none
  | _, _, _ => none

theorem shape_setRow {w : World} {b : Nat} {cs new : Array Value} {e : TypeId} {fr : Nat × Nat} (hb : w.heap[b]? = some (.cells cs e fr)) (hs : new.size = cs.size) (k : Nat) (x : TypeId × Nat) (h : w.shape? k = some x) :
    (w.setRow b new).shape? k = some x := by
  by_cases hk : k = b
  · subst hk
    have h2 := setRow_heap w k cs new e fr hb
    unfold World.shape? at *
    rw [h2]
    rw [hb] at h
    simpa [hs] using h
  · unfold World.shape? at *
    rw [setRow_other w b k new hk]
    exact h

theorem setRow_size (w : World) (b : Nat) (new : Array Value) : (w.setRow b new).heap.size = w.heap.size := by
  simp [World.setRow]

/-- Cells are stored into an object's row. -/
theorem out_store (hin : HIn ext β p h w) {s : Sem Next} {id sz row col esz : Nat} {rows : List (List AVal)} {r : List AVal} {ad : Addr} {cs : List AVal} {vs : List Value}
    (hv : VRel (cx ext β h w) (.ptr id sz row col) (.pointer (some ad))) (hl : lk h id = some (.arr esz rows)) (hsz : rows.length = sz) (hr : rows[row]? = some r) (hcol : col + cs.length ≤ r.length)
    (hlen : vs.length = cs.length) (hone : ∀ u, u ∈ vs → u.oneCell' = true) (hrel : ∀ (i : Nat) y u, cs[i]? = some y → vs[i]? = some u → VRel (cx ext β h w) y u) (hnm : ∀ y, y ∈ cs → Nm p y)
    (hs : ∀ w', (storeCells ad vs).run P w = .ok () w' → s.run P w = .ok .skip w') :
    Out P ext β p h w fresh s .junk (hset h id (.arr esz (rows.set row (r.take col ++ cs ++ r.drop (col + cs.length))))) := by
  cases hv with | ptr _ _ _ _ _ hok =>
  obtain ⟨_, h2⟩ := hok esz rows hl
  obtain ⟨b, hb, rfl⟩ := h2 hsz.symm
  obtain ⟨hrows, h4⟩ := hin.ob id _ hl
  rw [hb] at h4
  obtain ⟨cur, e, h5, h6, h7⟩ := h4
  have h5' : w.heap[b]? = some (.cells cur e (0, 0)) := h5
  have hb' : β id = some b := hb
  have hrl : r.length = esz := hrows r (List.mem_of_getElem? hr)
  have hrow : row < rows.length := (List.getElem?_eq_some_iff.1 hr).1
  have hin2 : (row + 1) * esz ≤ cur.size := Nat.le_trans (Nat.mul_le_mul_right esz hrow) h6
  have hin3 : row * esz + esz ≤ cur.size := by rw [Nat.add_mul, Nat.one_mul] at hin2; exact hin2
  let o := row * esz + col
  have ho : o + vs.length ≤ cur.size := by show row * esz + col + vs.length ≤ cur.size; omega
  let new : Array Value := (cur.toList.take o ++ vs ++ cur.toList.drop (o + vs.length)).toArray
  have hrun := run_storeCells_at (P := P) b o e vs 0 cur w h5' (by simpa using ho) hone
  simp only [Nat.add_zero] at hrun
  have hsize : new.size = cur.size := by simp [new]; omega
  have hnew : ∀ k, new[k]? = if o ≤ k ∧ k < o + vs.length then vs[k - o]? else cur[k]? := fun k => by
    have hto : (cur.toList.take o).length = o := by simp; omega
    show ((cur.toList.take o ++ vs ++ cur.toList.drop (o + vs.length)).toArray)[k]? = _
    rw [List.getElem?_toArray, List.append_assoc]
    by_cases h1 : k < o
    · rw [List.getElem?_append_left (by omega), if_neg (by omega), List.getElem?_take, if_pos h1]; simp
    · rw [List.getElem?_append_right (by omega), hto]
      by_cases h2 : k < o + vs.length
      · rw [List.getElem?_append_left (by omega), if_pos ⟨by omega, h2⟩]
      · rw [List.getElem?_append_right (by omega), if_neg (by omega), List.getElem?_drop]
        have : o + vs.length + (k - o - vs.length) = k := by omega
        rw [this]; simp
  have key := HIn.upd (w' := w.setRow b new) (o' := .arr esz (rows.set row (r.take col ++ cs ++ r.drop (col + cs.length)))) hin hl hb' (fun k hk => setRow_other w b k new hk) ⟨setRow_size w b new, rfl, rfl, rfl⟩ (shape_setRow h5' hsize)
    ⟨rfl, by simp⟩
    (fun r' hr' y hy => by
      rcases List.mem_or_eq_of_mem_set hr' with h8 | rfl
      · exact (hin.nm id _ hl).2 r' h8 y hy
      · rw [List.mem_append, List.mem_append] at hy
        rcases hy with (hy | hy) | hy
        · exact (hin.nm id _ hl).2 r (List.mem_of_getElem? hr) y (List.mem_of_mem_take hy)
        · exact hnm y hy
        · exact (hin.nm id _ hl).2 r (List.mem_of_getElem? hr) y (List.mem_of_mem_drop hy))
    (fun st => by
      refine ⟨fun r' hr' => ?_, ?_⟩
      · rcases List.mem_or_eq_of_mem_set hr' with h8 | rfl
        · exact hrows r' h8
        · simp; omega
      · have : (cx ext β (hset h id (.arr esz (rows.set row (r.take col ++ cs ++ r.drop (col + cs.length))))) (w.setRow b new)).β id = some b := hb'
        rw [this]
        refine ⟨new, e, setRow_heap w b cur new e (0, 0) h5', by rw [hsize]; simpa using h6, fun i r' j y hi hj => ?_⟩
        by_cases hir : i = row
        · subst hir
          rw [List.getElem?_set_self hrow] at hi
          injection hi with hi
          subst hi
          have hjl : j < esz := by have := (List.getElem?_eq_some_iff.1 hj).1; simp at this; omega
          rw [hnew]
          by_cases hc : col ≤ j ∧ j < col + cs.length
          · have hy : cs[j - col]? = some y := by
              rw [List.append_assoc, List.getElem?_append_right (by simp; omega)] at hj
              have : (r.take col).length = col := by simp; omega
              rw [this, List.getElem?_append_left (by omega)] at hj
              exact hj
            have hjv : j - col < vs.length := by omega
            rw [if_pos (show o ≤ i * esz + j ∧ i * esz + j < o + vs.length by show i * esz + col ≤ _ ∧ _ < i * esz + col + vs.length; omega)]
            have hix : i * esz + j - o = j - col := by show i * esz + j - (i * esz + col) = _; omega
            rw [hix]
            exact ⟨vs[j - col], List.getElem?_eq_getElem hjv, hone _ (List.getElem_mem hjv), (hrel (j - col) y _ hy (List.getElem?_eq_getElem hjv)).step (st p) (hnm y (List.mem_of_getElem? hy))⟩
          · have hy : r[j]? = some y := by
              by_cases h9 : j < col
              · rw [List.append_assoc, List.getElem?_append_left (by simp; omega), List.getElem?_take, if_pos h9] at hj
                exact hj
              · have h10 : col + cs.length ≤ j := by omega
                rw [List.getElem?_append_right (by simp; omega), List.getElem?_drop] at hj
                have : (r.take col ++ cs).length = col + cs.length := by simp; omega
                rw [this] at hj
                have : col + cs.length + (j - (col + cs.length)) = j := by omega
                rw [this] at hj
                exact hj
            rw [if_neg (show ¬ (o ≤ i * esz + j ∧ i * esz + j < o + vs.length) by show ¬ (i * esz + col ≤ _ ∧ _ < i * esz + col + vs.length); omega)]
            obtain ⟨u, h11, h12, h13⟩ := h7 i r j y hr hy
            exact ⟨u, h11, h12, h13.step (st p) ((hin.nm id _ hl).2 r (List.mem_of_getElem? hr) y (List.mem_of_getElem? hy))⟩
        · rw [List.getElem?_set_ne (fun e => hir e.symm)] at hi
          obtain ⟨u, h11, h12, h13⟩ := h7 i r' j y hi hj
          have hjl : j < esz := by have := (List.getElem?_eq_some_iff.1 hj).1; have := hrows r' (List.mem_of_getElem? hi); omega
          rw [hnew, if_neg]
          · exact ⟨u, h11, h12, h13.step (st p) ((hin.nm id _ hl).2 r' (List.mem_of_getElem? hi) y (List.mem_of_getElem? hj))⟩
          · show ¬ (row * esz + col ≤ i * esz + j ∧ i * esz + j < row * esz + col + vs.length)
            rcases Nat.lt_or_gt_of_ne hir with h14 | h14
            · have : (i + 1) * esz ≤ row * esz := Nat.mul_le_mul_right esz h14
              rw [Nat.add_mul, Nat.one_mul] at this
              omega
            · have : (row + 1) * esz ≤ i * esz := Nat.mul_le_mul_right esz h14
              rw [Nat.add_mul, Nat.one_mul] at this
              omega)
  obtain ⟨k1, k2, k3⟩ := key
  exact ⟨.skip, undef, w.setRow b new, β, hs _ hrun, .inr ⟨rfl, rfl⟩, k1.mono fun _ => .inl, .junk _, .junk, k2, k3 p⟩

theorem out_astore (hin : HIn ext β p h w) {t : TypeId} {x v : AVal} {h' : Heap} {a u : Value} (hx : VRel (cx ext β h w) x a) (hv : VRel (cx ext β h w) v u) (hnx : Nm p x) (hnv : Nm p v) (hy : astore P h t x v = some h') :
    Out P ext β p h w fresh (do Instr.storeAt t a u; pure .skip) .junk h' := by
  unfold astore at hy
  split at hy
  case h_2 => cases hy
  rename_i ti id sz row col cs ht hc
  split at hy
  case h_2 => cases hy
  rename_i esz rows hl
  split at hy
  case isFalse => cases hy
  rename_i hsz
  split at hy
  case h_2 => cases hy
  rename_i r hr
  split at hy
  case isFalse => cases hy
  rename_i hcond
  injection hy with hy
  subst hy
  obtain ⟨h1, h2, h3⟩ := boxCells_ok hv hc
  generalize hz : AVal.ptr id sz row col = z at hx
  cases hx <;> try (cases hz; done)
  case ptr id' sz' row' col' ad hok =>
    injection hz with e1 e2 e3 e4
    subst e1 e2 e3 e4
    refine out_store (vs := u.cells.toList) hin (.ptr _ _ _ _ ad hok) hl hsz hr hcond.2 (by simpa using h1) (fun y hy => ?_) (fun i y z hi hz => h3 i y z hi (by simpa using hz)) (boxCells_nm hnv hc) (fun w' hw' => ?_)
    · obtain ⟨i, hi⟩ := List.getElem?_of_mem hy
      exact h2 i y (by simpa using hi)
    · simp [Instr.storeAt, Instr.sureAddr, storeVar, run_size w ht, h1, hcond.1, hw']

end ops

end Go.AM
end

section
namespace Go.AM
open Go

theorem mapM_get {α γ : Type} {f : α → Option γ} : ∀ {l : List α} {r : List γ}, l.mapM f = some r → ∀ (i : Nat) b, r[i]? = some b → ∃ a, l[i]? = some a ∧ f a = some b
  | [], r, h, i, b, hb => by simp at h; subst h; simp at hb
  | a :: l, r, h, i, b, hb => by
    obtain ⟨c, cs, h1, h2, rfl⟩ := mapM_cons_some h
    cases i with
    | zero => simp at hb; subst hb; exact ⟨a, rfl, h1⟩
    | succ i =>
      simp at hb
      obtain ⟨a', h3, h4⟩ := mapM_get h2 i b hb
      exact ⟨a', by simpa using h3, h4⟩

/-- A field's row. -/
def fld (P : Program) (t : TypeId) (f : Nat) : Option Fld :=
  match tab P t with
  | some ⟨.struct fs, _, _, _⟩ => fs[f]?
  | _ => none

theorem fld_ok {P : Program} {t : TypeId} {f : Nat} {fl : Fld} (h : fld P t f = some fl) :
    ∃ (gs : Array Field) (g : Field) (i : TypeInfo) (d : TypeDesc), P.underlying t = some (.struct gs) ∧ gs[f]? = some g ∧ P.info? g.type = some i ∧ P.underlying g.type = some d ∧ fl.off = g.offset ∧ fl.size = i.size ∧ fl.agg = aggD d := by
  unfold fld at h
  split at h
  case h_2 => cases h
  rename_i fs _ _ _ ht
  obtain ⟨gs, hg, hm⟩ := kind_struct ⟨_, ht, rfl⟩
  obtain ⟨g, h1, h2⟩ := mapM_get hm f fl h
  obtain ⟨i, hi, h2⟩ := Option.bind_eq_some_iff.1 h2
  obtain ⟨d, hd, h2⟩ := Option.map_eq_some_iff.1 h2
  subst h2
  exact ⟨gs, g, i, d, hg, by simpa using h1, hi, hd, rfl, rfl, rfl⟩

def afieldAddr (P : Program) (t : TypeId) (x : AVal) (f : Nat) : Option AVal :=
  match fld P t f with
  | some fl =>
    if fl.size = 0 then none else
    match x with
    | .ptr id sz row col => some (.ptr id sz row (col + fl.off))
    | .fp cells => some (.fp (cells.drop fl.off))
    | _ => none
  | none => none

def afield (P : Program) (t : TypeId) (x : AVal) (f : Nat) : Option AVal :=
  match fld P t f, x with
  | some fl, .agg cs => apart fl.agg fl.size cs fl.off
  | _, _ => none

theorem VRel_fp_drop {c : Cx} {cells : List AVal} {blk off : Nat} {v : Value} (h : VRel c (.fp cells) v) (hv : v = .pointer (some ⟨blk, off, none⟩)) (k : Nat) : VRel c (.fp (cells.drop k)) (.pointer (some ⟨blk, off + k, none⟩)) := by
  cases h with | fp _ b o vals hcell hrel =>
  injection hv with hv
  injection hv with hv
  injection hv with e1 e2
  subst e1 e2
  refine .fp _ b (o + k) (fun j => vals (k + j)) (fun j x hx => ?_) (fun j x hx => ?_)
  · rw [List.getElem?_drop] at hx
    have := hcell (k + j) x hx
    rw [Nat.add_assoc]; exact this
  · rw [List.getElem?_drop] at hx
    exact hrel (k + j) x hx

theorem VRel_ptr_col {c : Cx} {id sz row col : Nat} {ad : Addr} {v : Value} (h : VRel c (.ptr id sz row col) v) (hv : v = .pointer (some ad)) (k : Nat) : VRel c (.ptr id sz row (col + k)) (.pointer (some (ad.add k))) := by
  cases h with | ptr _ _ _ _ ad' hok =>
  injection hv with hv
  injection hv with hv
  subst hv
  refine .ptr _ _ _ _ _ fun esz rows hl => ?_
  obtain ⟨h1, h2⟩ := hok esz rows hl
  refine ⟨h1, fun e => ?_⟩
  obtain ⟨b, hb, had⟩ := h2 e
  subst had
  exact ⟨b, hb, by rw [addr_add, Nat.add_assoc]⟩

section ops
variable {P : Program} {c : Cx} {p : Nat → Prop} (w : World)

theorem afieldAddr_ok {t : TypeId} {f : Nat} {x y : AVal} {v : Value} (hv : VRel c x v) (hn : Nm p x) (hy : afieldAddr P t x f = some y) :
    ∃ u, (Instr.fieldAt t v f).run P w = .ok u w ∧ VRel c y u ∧ Nm p y := by
  unfold afieldAddr at hy
  split at hy
  case h_2 => cases hy
  rename_i fl hfl
  split at hy
  case isTrue => cases hy
  rename_i hsz
  obtain ⟨gs, g, i, d, hg, hgf, hi, hd, e1, e2, e3⟩ := fld_ok hfl
  have hs : (sizeOf g.type).run P w = .ok i.size w := by simp [sizeOf, typeInfo, hi]
  have hne : ¬ i.size = 0 := by rw [← e2]; exact hsz
  have hrun : ∀ ad : Addr, (Instr.fieldAt t (.pointer (some ad)) f).run P w = .ok (.pointer (some (ad.add g.offset))) w := fun ad => by
    simp [Instr.fieldAt, run_underlying hg, hgf, Instr.sureAddr, fieldPlace, hs, hne]
  have hv0 := hv
  cases hv <;> simp only [] at hy <;> try (cases hy; done)
  case ptr id sz row col ad hok =>
    injection hy with hy
    subst hy
    cases hn with | ptr _ _ _ _ hid =>
    exact ⟨_, hrun ad, e1 ▸ VRel_ptr_col hv0 rfl _, .ptr _ _ _ _ hid⟩
  case fp cells blk off vals hcell hrel =>
    injection hy with hy
    subst hy
    cases hn with | fp _ hn =>
    refine ⟨_, hrun _, ?_, .fp _ fun z hz => hn z (List.mem_of_mem_drop hz)⟩
    rw [addr_add]
    exact e1 ▸ VRel_fp_drop hv0 rfl _

theorem afield_ok {t : TypeId} {f : Nat} {x y : AVal} {v : Value} (hv : VRel c x v) (hn : Nm p x) (hy : afield P t x f = some y) :
    ∃ u, (Instr.field t v f).run P w = .ok u w ∧ VRel c y u ∧ Nm p y := by
  unfold afield at hy
  split at hy
  case h_2 => cases hy
  rename_i fl cs hfl
  obtain ⟨gs, g, i, d, hg, hgf, hi, hd, e1, e2, e3⟩ := fld_ok hfl
  cases hv with | agg _ vs l o r =>
  cases hn with | agg _ hn =>
  rw [e1, e2, e3] at hy
  obtain ⟨u, h1, h2⟩ := run_part' hi hd l o r hy w
  exact ⟨u, by simp [Instr.field, run_underlying hg, hgf, asAgg, h1], h2, nm_apart hy hn⟩

def aextract (x : AVal) (i : Nat) : Option AVal :=
  match x with
  | .tuple vs => vs[i]?
  | _ => none

theorem aextract_ok {i : Nat} {x y : AVal} {v : Value} (hv : VRel c x v) (hn : Nm p x) (hy : aextract x i = some y) : ∃ u, (Instr.extract v i).run P w = .ok u w ∧ VRel c y u ∧ Nm p y := by
  cases hv <;> simp only [aextract] at hy <;> try (cases hy; done)
  case tuple cells vs l r =>
    cases hn with | tuple _ hn =>
    have hi : i < vs.size := by rw [l]; exact (List.getElem?_eq_some_iff.1 hy).1
    exact ⟨vs[i], by simp [Instr.extract, Array.getElem?_eq_getElem hi], r i y _ hy (Array.getElem?_eq_getElem hi), hn y (List.mem_of_getElem? hy)⟩

/-! ### Elements -/

def aindexAddr (P : Program) (h : Heap) (t : TypeId) (x ix : AVal) : Option AVal :=
  match ix with
  | .int _ i =>
    if 0 ≤ i then
      match tab P t with
      | some ⟨.slice e, _, _, _⟩ =>
        match tab P e with
        | some te =>
          match x with
          | .sl rows _ => match rows[i.toNat]? with | some r => if r.length = te.size then some (.fp r) else none | none => none
          | .ref id sz base len _ _ =>
            match lk h id with
            | some (.arr esz rows) => if rows.length = sz ∧ esz = te.size ∧ i < len then some (.ptr id sz (base + i.toNat) 0) else none
            | _ => none
          | _ => none
        | none => none
      | some ⟨.array n e, _, _, _⟩ =>
        match tab P e with
        | some te =>
          if i < n then
            match x with
            | .ptr id sz row col => some (.ptr id sz row (col + i.toNat * te.size))
            | .fp cells => some (.fp (cells.drop (i.toNat * te.size)))
            | _ => none
          else none
        | none => none
      | _ => none
    else none
  | _ => none

theorem aindexAddr_ok {t : TypeId} {x ix y : AVal} {v vi : Value} (hv : VRel c x v) (hvi : VRel c ix vi) (hn : Nm p x) (hy : aindexAddr P c.h t x ix = some y) :
    ∃ u, (Instr.indexAt t v vi).run P w = .ok u w ∧ VRel c y u ∧ Nm p y := by
  unfold aindexAddr at hy
  split at hy
  case h_2 => cases hy
  rename_i k i
  cases hvi
  split at hy
  case isFalse => cases hy
  rename_i hi0
  split at hy
  case h_3 => cases hy
  case h_1 =>
    rename_i e _ _ _ ht
    split at hy
    case h_2 => cases hy
    rename_i te he
    have hu := und_slice ht
    have hs := run_size (P := P) w he
    have hv0 := hv
    cases hv <;> simp only [] at hy <;> try (cases hy; done)
    case sl rows lim a cap esz blk off vals hcap hlim hrow ha hcell hrel =>
      split at hy
      case h_2 => cases hy
      rename_i r hr
      split at hy
      case isFalse => cases hy
      rename_i hlen
      injection hy with hy
      subst hy
      have hlt : i.toNat < rows.length := (List.getElem?_eq_some_iff.1 hr).1
      have hne : rows ≠ [] := fun e => by rw [e] at hlt; simp at hlt
      have hlt' : i < (rows.length : Int) := by omega
      have hesz : esz = te.size := by rw [← hlen]; exact (hrow r (List.mem_of_getElem? hr)).symm
      refine ⟨.pointer (some ⟨blk, off + i.toNat * te.size, none⟩), ?_, ?_, ?_⟩
      · rw [ha hne]
        simp [Instr.indexAt, asIntOf, run_underlying hu, hi0, hlt', hs, addr_add]
      · refine .fp r blk (off + i.toNat * te.size) (fun j => vals i.toNat j) (fun j x hx => ?_) (fun j x hx => hrel _ r j x hr hx)
        have := hcell _ r j x hr hx
        rw [← hesz, Nat.add_assoc]; exact this
      · cases hn with | sl _ _ hn =>
        exact .fp r (hn r (List.mem_of_getElem? hr))
    case ref id sz base len ex c0 a cap hcap hlo hex hok =>
      split at hy
      case h_2 => cases hy
      rename_i esz rows hl
      split at hy
      case isFalse => cases hy
      rename_i hcond
      obtain ⟨h1, h2, h3⟩ := hcond
      injection hy with hy
      subst hy
      obtain ⟨h4, h5⟩ := hok esz rows hl
      obtain ⟨h6, h7⟩ := h5 h1.symm
      rcases h7 with h7 | ⟨b, hb, ha, e', n, h8, h9⟩
      · omega
      · subst ha
        refine ⟨.pointer (some ⟨b, base * esz + i.toNat * te.size, none⟩), ?_, ?_, ?_⟩
        · simp [Instr.indexAt, asIntOf, run_underlying hu, hi0, h3, hs, addr_add]
        · refine .ptr _ _ _ _ _ fun esz' rows' hl' => ?_
          rw [hl] at hl'
          injection hl' with hl'
          injection hl' with q1 q2
          subst q1 q2
          exact ⟨Nat.le_of_eq h1.symm, fun _ => ⟨b, hb, by rw [← h2, Nat.add_mul, Nat.add_zero]⟩⟩
        · cases hn with | ref _ _ _ _ _ _ hid =>
          exact .ptr _ _ _ _ hid
  case h_2 =>
    rename_i n e _ _ _ ht
    split at hy
    case h_2 => cases hy
    rename_i te he
    split at hy
    case isFalse => cases hy
    rename_i hin
    have hu := und_array ht
    have hs := run_size (P := P) w he
    have hrun : ∀ ad : Addr, (Instr.indexAt t (.pointer (some ad)) (.int k i)).run P w = .ok (.pointer (some (ad.add (i.toNat * te.size)))) w := fun ad => by
      simp [Instr.indexAt, asIntOf, run_underlying hu, Instr.sureAddr, hi0, hin, hs]
    have hv0 := hv
    cases hv <;> simp only [] at hy <;> try (cases hy; done)
    case ptr id sz row col ad hok =>
      injection hy with hy
      subst hy
      cases hn with | ptr _ _ _ _ hid =>
      exact ⟨_, hrun ad, VRel_ptr_col hv0 rfl _, .ptr _ _ _ _ hid⟩
    case fp cells blk off vals hcell hrel =>
      injection hy with hy
      subst hy
      cases hn with | fp _ hn =>
      refine ⟨_, hrun _, ?_, .fp _ fun z hz => hn z (List.mem_of_mem_drop hz)⟩
      rw [addr_add]
      exact VRel_fp_drop hv0 rfl _

def aindex (P : Program) (t : TypeId) (x ix : AVal) : Option AVal :=
  match ix with
  | .int _ i =>
    if 0 ≤ i then
      match tab P t, x with
      | some ⟨.str, _, _, _⟩, .str s => match s[i.toNat]? with | some b => some (.int .u8 b.toNat) | none => none
      | some ⟨.array n e, _, _, _⟩, .agg cs => match tab P e with | some te => if i < n then apart te.kind.agg te.size cs (i.toNat * te.size) else none | none => none
      | _, _ => none
    else none
  | _ => none

theorem aindex_ok {t : TypeId} {x ix y : AVal} {v vi : Value} (hv : VRel c x v) (hvi : VRel c ix vi) (hn : Nm p x) (hy : aindex P t x ix = some y) :
    ∃ u, (Instr.index t v vi).run P w = .ok u w ∧ VRel c y u ∧ Nm p y := by
  unfold aindex at hy
  split at hy
  case h_2 => cases hy
  rename_i k i
  cases hvi
  split at hy
  case isFalse => cases hy
  rename_i hi0
  split at hy
  case h_3 => cases hy
  case h_1 =>
    rename_i _ _ _ s ht
    cases hv
    split at hy
    case h_2 => cases hy
    rename_i b hb
    injection hy with hy
    subst hy
    exact ⟨.int .u8 b.toNat, by simp [Instr.index, asIntOf, run_underlying (und_str ht), hi0, hb], .int _ _, .int _ _⟩
  case h_2 =>
    rename_i n e _ _ _ cs ht
    split at hy
    case h_2 => cases hy
    rename_i te he
    split at hy
    case isFalse => cases hy
    rename_i hin
    cases hv with | agg _ vs l o r =>
    cases hn with | agg _ hn =>
    obtain ⟨u, h1, h2⟩ := run_part he l o r hy w
    exact ⟨u, by simp [Instr.index, asIntOf, run_underlying (und_array ht), hi0, hin, run_size w he, h1], h2, nm_apart hy hn⟩

/-! ### Slicing -/

def abnd : Option AVal → Option (Option Nat)
  | none => some none
  | some (.int _ i) => if 0 ≤ i then some (some i.toNat) else none
  | some _ => none

def alim (m : Option Nat) (l : Nat) (lim : Option Nat) : Option Nat :=
  match m with
  | some m => some (m - l)
  | none => lim.map (· - l)

def aslice (P : Program) (h : Heap) (t : TypeId) (x : AVal) (lo hi mx : Option AVal) : Option AVal :=
  match abnd lo, abnd hi, abnd mx with
  | some l, some u, some m =>
    match tab P t, x with
    | some ⟨.str, _, _, _⟩, .str s =>
      if m.isNone ∧ l.getD 0 ≤ u.getD s.size ∧ u.getD s.size ≤ s.size then some (.str (s.extract (l.getD 0) (u.getD s.size))) else none
    | some ⟨.slice e, _, _, _⟩, .sl rows lim =>
      match tab P e with
      | some te =>
        if l.getD 0 ≤ u.getD rows.length ∧ u.getD rows.length ≤ m.getD rows.length ∧ m.getD rows.length ≤ rows.length ∧ (m.isSome → u.isSome) ∧ ∀ r, r ∈ rows → r.length = te.size then
          some (.sl ((rows.drop (l.getD 0)).take (u.getD rows.length - l.getD 0)) (alim m (l.getD 0) lim))
        else none
      | none => none
    | some ⟨.slice e, _, _, _⟩, .ref id sz base len ex c =>
      match tab P e, lk h id with
      | some te, some (.arr esz rows) =>
        if rows.length = sz ∧ esz = te.size ∧ l.getD 0 ≤ u.getD len ∧ u.getD len ≤ m.getD (max len c) ∧ m.getD (max len c) ≤ max len c ∧ (m.isSome → u.isSome) ∧ base + u.getD len ≤ sz then
          some (.ref id sz (base + l.getD 0) (u.getD len - l.getD 0) (m.isSome || ex) (m.getD (max len c) - l.getD 0))
        else none
      | _, _ => none
    | _, _ => none
  | _, _, _ => none

theorem run_bound {x : Value} {k : IntKind} {i : Int} (hx : x = .int k i) (h0 : 0 ≤ i) {y : Nat} (hy : i.toNat ≤ y) (code : BoundsCode) : (Instr.sliceBound x y code).run P w = .ok i.toNat w := by
  subst hx
  have : i ≤ (y : Int) := by omega
  simp [Instr.sliceBound, asIntOf, h0, this]

theorem abnd_ok {o : Option AVal} {r : Option Nat} {ov : Option Value} (h : abnd o = some r) (hv : ∀ x, o = some x → ∃ v, ov = some v ∧ VRel c x v) (hnone : o = none → ov = none) :
    (r = none ∧ ov = none) ∨ (∃ k i, ov = some (.int k i) ∧ 0 ≤ i ∧ r = some i.toNat) := by
  cases o with
  | none => simp [abnd] at h; exact .inl ⟨h.symm, hnone rfl⟩
  | some x =>
    obtain ⟨v, h1, h2⟩ := hv x rfl
    cases h2 <;> simp only [abnd] at h <;> try (cases h; done)
    rename_i k n
    split at h
    case isFalse => cases h
    rename_i h0
    injection h with h
    exact .inr ⟨k, n, h1, h0, h.symm⟩

theorem run_bounds {l u m : Option Nat} {lv uv mv : Option Value} (hl : (l = none ∧ lv = none) ∨ (∃ k i, lv = some (.int k i) ∧ 0 ≤ i ∧ l = some i.toNat))
    (hu : (u = none ∧ uv = none) ∨ (∃ k i, uv = some (.int k i) ∧ 0 ≤ i ∧ u = some i.toNat)) (hm : (m = none ∧ mv = none) ∨ (∃ k i, mv = some (.int k i) ∧ 0 ≤ i ∧ m = some i.toNat))
    (isSlice : Bool) (len cap : Nat) (h1 : l.getD 0 ≤ u.getD len) (h2 : u.getD len ≤ m.getD cap) (h3 : m.getD cap ≤ cap) (h4 : m.isSome → u.isSome) :
    (Instr.sliceBounds isSlice len cap lv uv mv).run P w = .ok (l.getD 0, u.getD len, m.getD cap) w := by
  unfold Instr.sliceBounds
  rcases hm with ⟨rfl, rfl⟩ | ⟨km, im, rfl, hm0, rfl⟩ <;> rcases hu with ⟨rfl, rfl⟩ | ⟨ku, iu, rfl, hu0, rfl⟩ <;> rcases hl with ⟨rfl, rfl⟩ | ⟨kl, il, rfl, hl0, rfl⟩ <;>
    simp only [Option.getD_none, Option.getD_some] at h1 h2 h3 h4 ⊢ <;> try (simp at h4; done)
  · simp
  · simp [run_bound w rfl hl0 h1]
  · simp [run_bound w rfl hu0 h2]
  · simp [run_bound w rfl hu0 h2, run_bound w rfl hl0 h1]
  · simp [run_bound w rfl hm0 h3, run_bound w rfl hu0 h2]
  · simp [run_bound w rfl hm0 h3, run_bound w rfl hu0 h2, run_bound w rfl hl0 h1]

theorem aslice_ok {t : TypeId} {x y : AVal} {v : Value} {lo hi mx : Option AVal} {lv uv mv : Option Value} (hv : VRel c x v) (hn : Nm p x) (hy : aslice P c.h t x lo hi mx = some y)
    (hlo : ∀ x, lo = some x → ∃ v, lv = some v ∧ VRel c x v) (hlo' : lo = none → lv = none)
    (hhi : ∀ x, hi = some x → ∃ v, uv = some v ∧ VRel c x v) (hhi' : hi = none → uv = none)
    (hmx : ∀ x, mx = some x → ∃ v, mv = some v ∧ VRel c x v) (hmx' : mx = none → mv = none) :
    ∃ u, (Instr.sliceAt t v lv uv mv).run P w = .ok u w ∧ VRel c y u ∧ Nm p y := by
  unfold aslice at hy
  split at hy
  case h_2 => cases hy
  rename_i l u m hl hu hm
  replace hl := abnd_ok hl hlo hlo'
  replace hu := abnd_ok hu hhi hhi'
  replace hm := abnd_ok hm hmx hmx'
  split at hy
  case h_4 => cases hy
  case h_1 =>
    rename_i _ _ _ s ht
    cases hv
    split at hy
    case isFalse => cases hy
    rename_i hc
    obtain ⟨h1, h2, h3⟩ := hc
    injection hy with hy
    subst hy
    have hmn : m = none := by simpa using h1
    subst hmn
    have hmv : mv = none := by
      rcases hm with ⟨_, h⟩ | ⟨_, _, _, _, h⟩
      · exact h
      · cases h
    subst hmv
    have hb := run_bounds (P := P) w hl hu (.inl ⟨rfl, rfl⟩) false s.size s.size h2 (by simpa using h3) (by simp) (by simp)
    exact ⟨_, by simp [Instr.sliceAt, Instr.slice, run_underlying (und_str ht), hb], .str _, .str _⟩
  case h_2 =>
    rename_i e _ _ _ rows lim ht
    split at hy
    case h_2 => cases hy
    rename_i te he
    split at hy
    case isFalse => cases hy
    rename_i hc
    obtain ⟨h1, h2, h3, h4, h5⟩ := hc
    injection hy with hy
    subst hy
    have hu' := und_slice ht
    have hs := run_size (P := P) w he
    cases hv with | sl _ _ a cap esz blk off vals hcap hlim hrow ha hcell hrel =>
    cases hn with | sl _ _ hn =>
    have hmc : m.getD cap ≤ cap := by cases m with | none => simp | some m => simp at h3 ⊢; omega
    have hum : u.getD rows.length ≤ m.getD cap := by cases m with | none => simp at h2 h3 ⊢; omega | some m => simpa using h2
    have hb := run_bounds (P := P) w hl hu hm true rows.length cap h1 hum hmc h4
    generalize hL : l.getD 0 = L at *
    generalize hU : u.getD rows.length = U at *
    generalize hM : m.getD cap = M at *
    have hrun : (Instr.sliceAt t (.slice a rows.length cap) lv uv mv).run P w = .ok (.slice (if M = L then a else a.map (·.add (L * te.size))) (U - L) (M - L)) w := by
      simp [Instr.sliceAt, Instr.slice, run_underlying hu', hb, hs]
    refine ⟨_, hrun, ?_, .sl _ _ fun r hr x hx => hn r (List.mem_of_mem_drop (List.mem_of_mem_take hr)) x hx⟩
    have hUle : U ≤ rows.length := by cases m with | none => simp at h2; omega | some m => simp at h2 h3; omega
    have hlenr : ((rows.drop L).take (U - L)).length = U - L := by simp; omega
    have key := VRel.sl (c := c) ((rows.drop L).take (U - L)) (alim m L lim) (if M = L then a else a.map (·.add (L * te.size))) (M - L) esz blk (off + L * esz) (fun i j => vals (L + i) j)
      (by rw [hlenr]; omega)
      (fun l' hl' => by
        cases m with
        | none =>
          simp at hM
          simp only [alim] at hl'
          obtain ⟨l0, h6, rfl⟩ := Option.map_eq_some_iff.1 hl'
          rw [← hM, hlim l0 h6]
        | some m => simp [alim] at hM hl'; omega)
      (fun r hr => hrow r (List.mem_of_mem_drop (List.mem_of_mem_take hr)))
      (fun hne => by
        have h6 : 0 < U - L := by
          rcases Nat.eq_zero_or_pos (U - L) with h7 | h7
          · rw [h7] at hne; simp at hne
          · exact h7
        have hrne : rows ≠ [] := fun e => by rw [e] at hUle; simp at hUle; omega
        have hesz : esz = te.size := by
          cases rows with
          | nil => exact absurd rfl hrne
          | cons r rs => rw [← hrow r (by simp)]; exact h5 r (by simp)
        rw [if_neg (by omega), ha hrne]
        simp [addr_add, hesz])
      (fun i r j x h6 h7 => by
        rw [List.getElem?_take] at h6
        split at h6
        case isFalse => cases h6
        rw [List.getElem?_drop] at h6
        have := hcell (L + i) r j x h6 h7
        have e1 : off + L * esz + (i * esz + j) = off + ((L + i) * esz + j) := by rw [Nat.add_mul]; omega
        rw [e1]
        exact this)
      (fun i r j x h6 h7 => by
        rw [List.getElem?_take] at h6
        split at h6
        case isFalse => cases h6
        rw [List.getElem?_drop] at h6
        exact hrel (L + i) r j x h6 h7)
    rw [hlenr] at key
    exact key
  case h_3 =>
    rename_i e _ _ _ id sz base len ex c0 ht
    split at hy
    case h_2 => cases hy
    rename_i te esz rows he hlk
    split at hy
    case isFalse => cases hy
    rename_i hc
    obtain ⟨h0, h0', h1, h2, h3, h4, h5⟩ := hc
    injection hy with hy
    subst hy
    have hu' := und_slice ht
    have hs := run_size (P := P) w he
    cases hv with | ref _ _ _ _ _ _ a cap hcap hlo hex hok =>
    cases hn with | ref _ _ _ _ _ _ hid =>
    have hmax : max len c0 ≤ cap := by omega
    have hmc : m.getD cap ≤ cap := by cases m with | none => simp | some m => simp at h3 ⊢; omega
    have hum : u.getD len ≤ m.getD cap := by cases m with | none => simp at h2 h3 ⊢; omega | some m => simpa using h2
    have hb := run_bounds (P := P) w hl hu hm true len cap h1 hum hmc h4
    generalize hL : l.getD 0 = L at *
    generalize hU : u.getD len = U at *
    have hrun : (Instr.sliceAt t (.slice a len cap) lv uv mv).run P w = .ok (.slice (if m.getD cap = L then a else a.map (·.add (L * te.size))) (U - L) (m.getD cap - L)) w := by
      simp [Instr.sliceAt, Instr.slice, run_underlying hu', hb, hs]
    refine ⟨_, hrun, .ref _ _ _ _ _ _ _ _ (by omega) ?_ ?_ fun esz' rows' hl' => ?_, .ref _ _ _ _ _ _ hid⟩
    · cases m with
      | none => simp at hum ⊢; omega
      | some m => simp
    · intro hx
      cases m with
      | none => simp at hx ⊢; have := hex hx; omega
      | some m => simp
    · rw [hlk] at hl'
      injection hl' with hl'
      injection hl' with q1 q2
      subst q1 q2
      obtain ⟨h6, h7⟩ := hok esz rows hlk
      refine ⟨h6, fun hsz => ?_⟩
      obtain ⟨h8, h9⟩ := h7 hsz
      refine ⟨by omega, ?_⟩
      by_cases hML : m.getD cap = L
      · exact .inl (by omega)
      · rcases h9 with h9 | ⟨b, hb1, ha, e', n, h10, h11⟩
        · exact .inl (by omega)
        · refine .inr ⟨b, hb1, ?_, e', n, h10, ?_⟩
          · rw [if_neg hML, ha]
            simp [addr_add, h0', Nat.add_mul]
          · have : base + L + (m.getD cap - L) ≤ base + cap := by omega
            exact Nat.le_trans (Nat.mul_le_mul_right _ this) h11

/-! ### What else computes -/

def aunary (op : UnOp) (x : AVal) : Option AVal :=
  match op, x with
  | .neg, .int k n => some (.int k (k.wrap (0 - n)))
  | .not, .bool b => some (.bool !b)
  | _, _ => none

theorem aunary_ok {op : UnOp} {x y : AVal} {v : Value} (hv : VRel c x v) (hy : aunary op x = some y) : ∃ u, (Op.unary op v).run P w = .ok u w ∧ VRel c y u ∧ Nm p y := by
  unfold aunary at hy
  split at hy
  · cases hv
    injection hy with hy
    subst hy
    exact ⟨_, by simp [Op.unary, Op.intArith], .int _ _, .int _ _⟩
  · cases hv
    injection hy with hy
    subst hy
    exact ⟨_, by simp [Op.unary], .bool _, .bool _⟩
  · cases hy

def aconvert (P : Program) (dst : TypeId) (x : AVal) : Option AVal :=
  match tab P dst, x with
  | some ⟨.int k, _, _, _⟩, .int _ n => some (.int k (k.wrap n))
  | some ⟨.str, _, _, _⟩, .str s => some (.str s)
  | _, _ => none

theorem aconvert_ok {src dst : TypeId} {ts : TI} (hs : tab P src = some ts) {x y : AVal} {v : Value} (hv : VRel c x v) (hy : aconvert P dst x = some y) :
    ∃ u, (convert src dst v).run P w = .ok u w ∧ VRel c y u ∧ Nm p y := by
  obtain ⟨d, hd, _⟩ := run_und (P := P) w hs
  unfold aconvert at hy
  split at hy
  · rename_i k _ _ _ k' n ht
    cases hv
    injection hy with hy
    subst hy
    refine ⟨.int k (k.wrap n), ?_, .int _ _, .int _ _⟩
    simp only [convert, Sem.run_bind, run_underlying hd, run_underlying (und_int ht), Result.andThen_ok]
    cases d <;> simp [Conv.intToInt]
  · rename_i _ _ _ s ht
    cases hv
    injection hy with hy
    subst hy
    refine ⟨.string s, ?_, .str _, .str _⟩
    simp only [convert, Sem.run_bind, run_underlying hd, run_underlying (und_str ht), Result.andThen_ok]
    cases d <;> simp
  · cases hy

def aiface (P : Program) (t : TypeId) (x : AVal) : Option AVal :=
  match tab P t with
  | some ⟨.iface _, _, _, _⟩ => none
  | some _ => some (.iface t x)
  | none => none

theorem aiface_ok {t : TypeId} {x y : AVal} {v : Value} (hv : VRel c x v) (hn : Nm p x) (hy : aiface P t x = some y) : ∃ u, (Instr.makeInterface t v).run P w = .ok u w ∧ VRel c y u ∧ Nm p y := by
  unfold aiface at hy
  split at hy
  · cases hy
  · rename_i ti hk ht
    injection hy with hy
    subst hy
    obtain ⟨d, hd, _, hkd⟩ := run_und (P := P) w ht
    refine ⟨.iface t v, ?_, .iface t x v hv, .iface t x hn⟩
    simp only [Instr.makeInterface, Sem.run_bind, run_underlying hd, Result.andThen_ok]
    cases d <;> simp [kindOf] at hkd ⊢
    rename_i ms
    obtain ⟨kd, a, b, z⟩ := ti
    simp at hkd
    exact hk _ _ _ _ (by rw [← hkd])
  · cases hy

def alen (P : Program) (t : TypeId) (x : AVal) : Option AVal :=
  match tab P t, x with
  | some ⟨.str, _, _, _⟩, .str s => some (.int .i64 s.size)
  | some ⟨.slice _, _, _, _⟩, .sl rows _ => some (.int .i64 rows.length)
  | some ⟨.slice _, _, _, _⟩, .ref _ _ _ len _ _ => some (.int .i64 len)
  | some ⟨.map _ _, _, _, _⟩, .nilmap => some (.int .i64 0)
  | _, _ => none

theorem alen_ok {t ty : TypeId} {x y : AVal} {v : Value} (hv : VRel c x v) (hy : alen P t x = some y) : ∃ u, (Builtin.len_ #[t] ty #[v]).run P w = .ok u w ∧ VRel c y u ∧ Nm p y := by
  unfold alen at hy
  split at hy
  · rename_i ht
    cases hv
    injection hy with hy
    subst hy
    exact ⟨_, by simp [Builtin.len_, run_underlying (und_str ht), goInt], .int _ _, .int _ _⟩
  · rename_i ht
    cases hv
    injection hy with hy
    subst hy
    exact ⟨_, by simp [Builtin.len_, run_underlying (und_slice ht), goInt], .int _ _, .int _ _⟩
  · rename_i ht
    cases hv
    injection hy with hy
    subst hy
    exact ⟨_, by simp [Builtin.len_, run_underlying (und_slice ht), goInt], .int _ _, .int _ _⟩
  · rename_i ht
    cases hv
    injection hy with hy
    subst hy
    exact ⟨_, by simp [Builtin.len_, run_underlying (und_map ht), goInt], .int _ _, .int _ _⟩
  · cases hy

def aminmax (mx : Bool) (x y : AVal) : Option AVal :=
  match x, y with
  | .int k a, .int k' b => if k = k' then some (.int k (if mx then max a b else min a b)) else none
  | _, _ => none

theorem amax_ok {ts : Array TypeId} {ty : TypeId} {x y z : AVal} {v u : Value} (hv : VRel c x v) (hu : VRel c y u) (hz : aminmax true x y = some z) : ∃ r, (Builtin.max_ ts ty #[v, u]).run P w = .ok r w ∧ VRel c z r ∧ Nm p z := by
  unfold aminmax at hz
  split at hz
  case h_2 => cases hz
  rename_i k a k' b
  cases hv; cases hu
  split at hz
  case isFalse => cases hz
  injection hz with hz
  subst hz
  refine ⟨.int k (max a b), ?_, .int _ _, .int _ _⟩
  have : (if b > a then b else a) = max a b := by split <;> omega
  simp [Builtin.max_, Builtin.max2]
  exact this

theorem amin_ok {ts : Array TypeId} {ty : TypeId} {x y z : AVal} {v u : Value} (hv : VRel c x v) (hu : VRel c y u) (hz : aminmax false x y = some z) : ∃ r, (Builtin.min_ ts ty #[v, u]).run P w = .ok r w ∧ VRel c z r ∧ Nm p z := by
  unfold aminmax at hz
  split at hz
  case h_2 => cases hz
  rename_i k a k' b
  cases hv; cases hu
  split at hz
  case isFalse => cases hz
  injection hz with hz
  subst hz
  refine ⟨.int k (min a b), ?_, .int _ _, .int _ _⟩
  have : (if b < a then b else a) = min a b := by split <;> omega
  simp [Builtin.min_, Builtin.min2]
  exact this

end ops
end Go.AM
end

section
namespace Go.AM
open Go

/-- Cells are written over by others from a place on. -/
def splice (cells : List AVal) (off : Nat) (cs : List AVal) : List AVal := cells.take off ++ cs ++ cells.drop (off + cs.length)

theorem splice_length {cells : List AVal} {off : Nat} {cs : List AVal} (h : off + cs.length ≤ cells.length) : (splice cells off cs).length = cells.length := by
  simp [splice]; omega

theorem get_splice {α : Type} (cells : List α) (off : Nat) (cs : List α) (h : off + cs.length ≤ cells.length) (k : Nat) :
    (cells.take off ++ cs ++ cells.drop (off + cs.length))[k]? = if off ≤ k ∧ k < off + cs.length then cs[k - off]? else cells[k]? := by
  have hto : (cells.take off).length = off := by simp; omega
  rw [List.append_assoc]
  by_cases h1 : k < off
  · rw [List.getElem?_append_left (by omega), if_neg (by omega), List.getElem?_take, if_pos h1]
  · rw [List.getElem?_append_right (by omega), hto]
    by_cases h2 : k < off + cs.length
    · rw [List.getElem?_append_left (by omega), if_pos ⟨by omega, h2⟩]
    · rw [List.getElem?_append_right (by omega), if_neg (by omega), List.getElem?_drop]
      have : off + cs.length + (k - off - cs.length) = k := by omega
      rw [this]

/-- The machine's way to write a part. -/
theorem foldl_put (off : Nat) : ∀ (l : List Value) (k : Nat) (cells : Array Value), off + k + l.length ≤ cells.size →
    ((l.zipIdx k).foldl (fun cs (x : Value × Nat) => cs.setIfInBounds (off + x.2) x.1) cells).size = cells.size ∧
    ∀ n, ((l.zipIdx k).foldl (fun cs (x : Value × Nat) => cs.setIfInBounds (off + x.2) x.1) cells)[n]? = if off + k ≤ n ∧ n < off + k + l.length then l[n - (off + k)]? else cells[n]?
  | [], k, cells, h => by
    refine ⟨rfl, fun n => ?_⟩
    rw [if_neg (by simp)]
    rfl
  | v :: l, k, cells, h => by
    simp only [List.zipIdx_cons, List.foldl_cons, List.length_cons] at h ⊢
    obtain ⟨h1, h2⟩ := foldl_put off l (k + 1) (cells.setIfInBounds (off + k) v) (by simp; omega)
    refine ⟨by rw [h1]; simp, fun n => ?_⟩
    rw [h2]
    by_cases e : n = off + k
    · subst e
      rw [if_neg (by omega), if_pos ⟨by omega, by omega⟩]
      have : off + k < cells.size := by omega
      simp [this]
    · by_cases hn : off + (k + 1) ≤ n ∧ n < off + (k + 1) + l.length
      · rw [if_pos hn, if_pos ⟨by omega, by omega⟩]
        have : n - (off + k) = (n - (off + (k + 1))) + 1 := by omega
        rw [this, List.getElem?_cons_succ]
      · rw [if_neg hn, if_neg (by omega), Array.getElem?_setIfInBounds_ne (by omega)]

/-- Cells of the machine are as abstract ones say. -/
structure Cells (c : Cx) (cells : List AVal) (vs : Array Value) : Prop where
  size : vs.size = cells.length
  one : ∀ (i : Nat) v, vs[i]? = some v → v.oneCell' = true
  rel : ∀ (i : Nat) x v, cells[i]? = some x → vs[i]? = some v → VRel c x v

theorem Cells.agg {c : Cx} {cells : List AVal} {vs : Array Value} (h : Cells c cells vs) : VRel c (.agg cells) (.agg vs) := .agg _ _ h.size h.one h.rel

theorem Cells.put {c : Cx} {cells cs : List AVal} {vs us : Array Value} {off : Nat} (h : Cells c cells vs) (h' : Cells c cs us) (hl : off + cs.length ≤ cells.length) :
    Cells c (splice cells off cs) ((us.zipIdx).foldl (fun a (x : Value × Nat) => a.setIfInBounds (off + x.2) x.1) vs) := by
  have e : (us.zipIdx).foldl (fun a (x : Value × Nat) => a.setIfInBounds (off + x.2) x.1) vs = (us.toList.zipIdx 0).foldl (fun a (x : Value × Nat) => a.setIfInBounds (off + x.2) x.1) vs := by
    rw [← Array.foldl_toList, Array.toList_zipIdx]
  rw [e]
  obtain ⟨h1, h2⟩ := foldl_put off us.toList 0 vs (by simp [h'.size, h.size]; omega)
  have hus : us.toList.length = cs.length := by simp [h'.size]
  refine ⟨by rw [h1, h.size, splice_length hl], fun i v hi => ?_, fun i x v hx hv => ?_⟩
  · rw [h2] at hi
    split at hi
    · exact h'.one _ v (by simpa using hi)
    · exact h.one i v hi
  · unfold splice at hx
    rw [get_splice cells off cs hl] at hx
    rw [h2, hus] at hv
    simp only [Nat.add_zero] at hv
    split at hx
    · rename_i hc
      rw [if_pos hc] at hv
      exact h'.rel _ x v hx (by simpa using hv)
    · rename_i hc
      rw [if_neg hc] at hv
      exact h.rel i x v hx hv

theorem boxCells_cells {c : Cx} {x : AVal} {v : Value} {cs : List AVal} (hv : VRel c x v) (hc : boxCells x = some cs) : Cells c cs v.cells :=
  let ⟨h1, h2, h3⟩ := boxCells_ok hv hc; ⟨h1, h2, h3⟩

/-- Parts are written, one by one. -/
def afill (place : Nat → Option (Nat × Nat)) : List AVal → List (Nat × AVal) → Option (List AVal)
  | cells, [] => some cells
  | cells, (i, x) :: rest =>
    match place i, boxCells x with
    | some (off, size), some cs => if cs.length = size ∧ off + cs.length ≤ cells.length then afill place (splice cells off cs) rest else none
    | _, _ => none

theorem afill_ok {c : Cx} {place : Nat → Option (Nat × Nat)} : ∀ (xs : List (Nat × AVal)) (ps : List (Nat × Value)) (cells r : List AVal) (vs : Array Value), xs.length = ps.length →
    (∀ (i : Nat) a b, xs[i]? = some a → ps[i]? = some b → a.1 = b.1 ∧ VRel c a.2 b.2) → Cells c cells vs → afill place cells xs = some r → ∃ us, Instr.fill place vs ps = some us ∧ Cells c r us
  | [], ps, cells, r, vs, hl, _, hc, h => by
    cases ps with
    | cons _ _ => simp at hl
    | nil => simp [afill] at h; subst h; exact ⟨vs, rfl, hc⟩
  | (i, x) :: xs, ps, cells, r, vs, hl, hr, hc, h => by
    cases ps with
    | nil => simp at hl
    | cons q ps =>
      obtain ⟨j, v⟩ := q
      obtain ⟨e, hv⟩ := hr 0 (i, x) (j, v) rfl rfl
      simp only at e hv
      subst e
      simp only [afill] at h
      split at h
      case h_2 => cases h
      rename_i off size cs hp hb
      split at h
      case isFalse => cases h
      rename_i hcond
      have hcs := boxCells_cells hv hb
      obtain ⟨us, h1, h2⟩ := afill_ok xs ps (splice cells off cs) r _ (by simpa using hl) (fun k a b h1 h2 => hr (k + 1) a b h1 h2) (hc.put hcs hcond.2) h
      refine ⟨us, ?_, h2⟩
      have hs1 : ¬ v.cells.size ≠ size := by rw [hcs.size, hcond.1]; simp
      have hs2 : ¬ (off + v.cells.size > vs.size) := by rw [hcs.size, hc.size]; omega
      have hs3 : (v.cells.size ≠ size || off + v.cells.size > vs.size) = false := by
        simp only [Bool.or_eq_false_iff, decide_eq_false_iff_not]
        exact ⟨hs1, hs2⟩
      simp only [Instr.fill, hp, hs3]
      exact h1

theorem afill_nm {p : Nat → Prop} {place : Nat → Option (Nat × Nat)} : ∀ (xs : List (Nat × AVal)) (cells r : List AVal), (∀ a, a ∈ xs → Nm p a.2) → (∀ y, y ∈ cells → Nm p y) → afill place cells xs = some r → ∀ y, y ∈ r → Nm p y
  | [], cells, r, _, hc, h => by simp [afill] at h; exact h ▸ hc
  | (i, x) :: xs, cells, r, hx, hc, h => by
    simp only [afill] at h
    split at h
    case h_2 => cases h
    rename_i off size cs hp hb
    split at h
    case isFalse => cases h
    refine afill_nm xs _ r (fun a ha => hx a (by simp [ha])) (fun y hy => ?_) h
    unfold splice at hy
    rw [List.mem_append, List.mem_append] at hy
    rcases hy with (hy | hy) | hy
    · exact hc y (List.mem_of_mem_take hy)
    · exact boxCells_nm (hx (i, x) (by simp)) hb y hy
    · exact hc y (List.mem_of_mem_drop hy)

def abuild (P : Program) (t : TypeId) (parts : List (Nat × AVal)) : Option AVal :=
  match tab P t with
  | some ⟨.struct fs, _, _, .agg z⟩ => (afill (fun i => (fs[i]?).map fun f => (f.off, f.size)) z parts).map .agg
  | some ⟨.array _ e, _, _, .agg z⟩ => match tab P e with | some te => (afill (fun i => some (i * te.size, te.size)) z parts).map .agg | none => none
  | _ => none

theorem cells_of_agg {c : Cx} {z : List AVal} {v : Value} (h : VRel c (.agg z) v) : Cells c z v.cells := by
  cases h with | agg _ vs l o r => exact ⟨l, o, r⟩

theorem mapM_map_fields {P : Program} {gs : List Field} {fs : List Fld}
    (h : gs.mapM (fun f => (P.info? f.type).bind fun i => (P.underlying f.type).map fun d => { off := f.offset, size := i.size, agg := aggD d, type := f.type, blank := f.name == "_" : Fld }) = some fs) :
    gs.mapM (fun f => (P.info? f.type).map fun i => (f.offset, i.size)) = some (fs.map fun f => (f.off, f.size)) := by
  induction gs generalizing fs with
  | nil => simp at h; subst h; rfl
  | cons g gs ih =>
    obtain ⟨f, fs', h1, h2, rfl⟩ := mapM_cons_some h
    obtain ⟨i, hi, h1⟩ := Option.bind_eq_some_iff.1 h1
    obtain ⟨d, hd, h1⟩ := Option.map_eq_some_iff.1 h1
    subst h1
    simp [List.mapM_cons, hi, ih h2]

section
variable {P : Program} {c : Cx} {p : Nat → Prop} (w : World)

theorem abuild_ok {t : TypeId} {xs : List (Nat × AVal)} {ps : Array (Nat × Value)} {y : AVal} (hl : xs.length = ps.size) (hr : ∀ (i : Nat) a b, xs[i]? = some a → ps[i]? = some b → a.1 = b.1 ∧ VRel c a.2 b.2)
    (hn : ∀ a, a ∈ xs → Nm p a.2) (hy : abuild P t xs = some y) : ∃ u, (Instr.build t ps).run P w = .ok u w ∧ VRel c y u ∧ Nm p y := by
  have hr' : ∀ (i : Nat) a b, xs[i]? = some a → ps.toList[i]? = some b → a.1 = b.1 ∧ VRel c a.2 b.2 := fun i a b h1 h2 => hr i a b h1 (by simpa using h2)
  have hl' : xs.length = ps.toList.length := by simpa using hl
  unfold abuild at hy
  split at hy
  case h_3 => cases hy
  case h_1 =>
    rename_i fs n m z ht
    obtain ⟨r, hf, rfl⟩ := Option.map_eq_some_iff.1 hy
    obtain ⟨i, d, zv, h1, h2, h3, h4, h5, h6, h7, h8⟩ := tab_spec ht
    simp only at h8
    have hz : VRel c (.agg z) zv := h8 ▸ VRel_ofV c zv
    have hzn : ∀ y, y ∈ z → Nm p y := by
      have := Fz_ofV zv
      rw [h8] at this
      cases this with | agg _ hh => exact fun y hy => Fz.nm (hh y hy) p
    obtain ⟨gs, hg, hm⟩ := kind_struct ⟨_, ht, rfl⟩
    obtain ⟨us, h9, h10⟩ := afill_ok xs ps.toList z r zv.cells hl' hr' (cells_of_agg hz) hf
    refine ⟨.agg us, run_build w t ps us ?_, h10.agg, .agg _ (afill_nm xs z r hn hzn hf)⟩
    unfold Program.built
    rw [h1, hg]
    simp only [h3, mapM_map_fields hm]
    rw [← h9]
    congr 1
    funext j
    simp
  case h_2 =>
    rename_i l e n m z ht
    split at hy
    case h_2 => cases hy
    rename_i te he
    obtain ⟨r, hf, rfl⟩ := Option.map_eq_some_iff.1 hy
    obtain ⟨i, d, zv, h1, h2, h3, h4, h5, h6, h7, h8⟩ := tab_spec ht
    simp only at h8
    have hz : VRel c (.agg z) zv := h8 ▸ VRel_ofV c zv
    have hzn : ∀ y, y ∈ z → Nm p y := by
      have := Fz_ofV zv
      rw [h8] at this
      cases this with | agg _ hh => exact fun y hy => Fz.nm (hh y hy) p
    obtain ⟨ie, _, _, q1, _, _, _, _, q6, _⟩ := tab_spec he
    obtain ⟨us, h9, h10⟩ := afill_ok xs ps.toList z r zv.cells hl' hr' (cells_of_agg hz) hf
    refine ⟨.agg us, run_build w t ps us ?_, h10.agg, .agg _ (afill_nm xs z r hn hzn hf)⟩
    unfold Program.built
    rw [h1, und_array ht]
    simp only [h3, q1]
    rw [← h9, q6]

end

/-! ### Slices out of parts -/

/-- The rows that parts make. -/
def arows (size : Nat) : List (List AVal) → List (Nat × AVal) → Option (List (List AVal))
  | rows, [] => some rows
  | rows, (i, x) :: rest =>
    match boxCells x with
    | some cs => if cs.length = size ∧ i < rows.length then arows size (rows.set i cs) rest else none
    | none => none

/-- Rows of cells, one behind the other. -/
structure Rows (c : Cx) (esz : Nat) (rows : List (List AVal)) (vs : Array Value) : Prop where
  size : vs.size = rows.length * esz
  row : ∀ r, r ∈ rows → r.length = esz
  one : ∀ (i : Nat) v, vs[i]? = some v → v.oneCell' = true
  rel : ∀ (i : Nat) r (j : Nat) x v, rows[i]? = some r → r[j]? = some x → vs[i * esz + j]? = some v → VRel c x v

theorem Rows.put {c : Cx} {esz : Nat} {rows : List (List AVal)} {vs us : Array Value} {i : Nat} {cs : List AVal} (h : Rows c esz rows vs) (h' : Cells c cs us) (hl : cs.length = esz) (hi : i < rows.length) :
    Rows c esz (rows.set i cs) ((us.zipIdx).foldl (fun a (x : Value × Nat) => a.setIfInBounds (i * esz + x.2) x.1) vs) := by
  have e : (us.zipIdx).foldl (fun a (x : Value × Nat) => a.setIfInBounds (i * esz + x.2) x.1) vs = (us.toList.zipIdx 0).foldl (fun a (x : Value × Nat) => a.setIfInBounds (i * esz + x.2) x.1) vs := by
    rw [← Array.foldl_toList, Array.toList_zipIdx]
  rw [e]
  have hb : (i + 1) * esz ≤ rows.length * esz := Nat.mul_le_mul_right esz hi
  rw [Nat.add_mul, Nat.one_mul] at hb
  have hus : us.toList.length = esz := by simp [h'.size, hl]
  obtain ⟨h1, h2⟩ := foldl_put (i * esz) us.toList 0 vs (by rw [hus, h.size]; omega)
  refine ⟨by rw [h1, h.size]; simp, fun r hr => ?_, fun k v hk => ?_, fun k r j x v hr hx hv => ?_⟩
  · rcases List.mem_or_eq_of_mem_set hr with h3 | rfl
    · exact h.row r h3
    · exact hl
  · rw [h2] at hk
    split at hk
    · exact h'.one _ v (by simpa using hk)
    · exact h.one k v hk
  · rw [h2, hus] at hv
    simp only [Nat.add_zero] at hv
    by_cases hki : k = i
    · subst hki
      rw [List.getElem?_set_self hi] at hr
      injection hr with hr
      subst hr
      have hj : j < esz := by rw [← hl]; exact (List.getElem?_eq_some_iff.1 hx).1
      rw [if_pos ⟨by omega, by omega⟩] at hv
      have : k * esz + j - k * esz = j := by omega
      rw [this] at hv
      exact h'.rel j x v hx (by simpa using hv)
    · rw [List.getElem?_set_ne (fun e => hki e.symm)] at hr
      have hj : j < esz := by have := (List.getElem?_eq_some_iff.1 hx).1; have := h.row r (List.mem_of_getElem? hr); omega
      rw [if_neg] at hv
      · exact h.rel k r j x v hr hx hv
      · rcases Nat.lt_or_gt_of_ne hki with h14 | h14
        · have : (k + 1) * esz ≤ i * esz := Nat.mul_le_mul_right esz h14
          rw [Nat.add_mul, Nat.one_mul] at this
          omega
        · have : (i + 1) * esz ≤ k * esz := Nat.mul_le_mul_right esz h14
          rw [Nat.add_mul, Nat.one_mul] at this
          omega

theorem arows_ok {c : Cx} {esz : Nat} : ∀ (xs : List (Nat × AVal)) (ps : List (Nat × Value)) (rows r : List (List AVal)) (vs : Array Value), xs.length = ps.length →
    (∀ (i : Nat) a b, xs[i]? = some a → ps[i]? = some b → a.1 = b.1 ∧ VRel c a.2 b.2) → Rows c esz rows vs → arows esz rows xs = some r →
    ∃ us, Instr.fill (fun i => some (i * esz, esz)) vs ps = some us ∧ Rows c esz r us ∧ r.length = rows.length
  | [], ps, rows, r, vs, hl, _, hc, h => by
    cases ps with
    | cons _ _ => simp at hl
    | nil => simp [arows] at h; subst h; exact ⟨vs, rfl, hc, rfl⟩
  | (i, x) :: xs, ps, rows, r, vs, hl, hr, hc, h => by
    cases ps with
    | nil => simp at hl
    | cons q ps =>
      obtain ⟨j, v⟩ := q
      obtain ⟨e, hv⟩ := hr 0 (i, x) (j, v) rfl rfl
      simp only at e hv
      subst e
      simp only [arows] at h
      split at h
      case h_2 => cases h
      rename_i cs hb
      split at h
      case isFalse => cases h
      rename_i hcond
      have hcs := boxCells_cells hv hb
      obtain ⟨us, h1, h2, h3⟩ := arows_ok xs ps (rows.set i cs) r _ (by simpa using hl) (fun k a b h1 h2 => hr (k + 1) a b h1 h2) (hc.put hcs hcond.1 hcond.2) h
      refine ⟨us, ?_, h2, by rw [h3]; simp⟩
      have hbb : (i + 1) * esz ≤ rows.length * esz := Nat.mul_le_mul_right esz hcond.2
      rw [Nat.add_mul, Nat.one_mul] at hbb
      have hs3 : (v.cells.size ≠ esz || i * esz + v.cells.size > vs.size) = false := by
        simp only [Bool.or_eq_false_iff, decide_eq_false_iff_not]
        rw [hcs.size, hcond.1, hc.size]
        exact ⟨by simp, by omega⟩
      simp only [Instr.fill, hs3]
      exact h1

theorem arows_nm {p : Nat → Prop} {esz : Nat} : ∀ (xs : List (Nat × AVal)) (rows r : List (List AVal)), (∀ a, a ∈ xs → Nm p a.2) → (∀ y, y ∈ rows → ∀ x, x ∈ y → Nm p x) → arows esz rows xs = some r → ∀ y, y ∈ r → ∀ x, x ∈ y → Nm p x
  | [], cells, r, _, hc, h => by simp [arows] at h; exact h ▸ hc
  | (i, x) :: xs, rows, r, hx, hc, h => by
    simp only [arows] at h
    split at h
    case h_2 => cases h
    rename_i cs hb
    split at h
    case isFalse => cases h
    refine arows_nm xs _ r (fun a ha => hx a (by simp [ha])) (fun y hy => ?_) h
    rcases List.mem_or_eq_of_mem_set hy with h3 | rfl
    · exact hc y h3
    · exact boxCells_nm (hx (i, x) (by simp)) hb

/-- Zero rows. -/
theorem Rows.zeros {c : Cx} {z : List AVal} {zv : Array Value} (h : Cells c z zv) (n : Nat) : Rows c z.length (List.replicate n z) ((Array.range (n * z.length)).map fun i => zv[i % zv.size]!) := by
  have hz : ∀ i, i < n * z.length → i % zv.size < zv.size := fun i hi => by
    refine Nat.mod_lt _ ?_
    rw [h.size]
    rcases Nat.eq_zero_or_pos z.length with h0 | h0
    · rw [h0] at hi; simp at hi
    · exact h0
  refine ⟨by simp, fun r hr => by rw [List.mem_replicate] at hr; rw [hr.2], fun i v hi => ?_, fun i r j x v hr hx hv => ?_⟩
  · have hlt := (Array.getElem?_eq_some_iff.1 hi).1
    simp at hlt
    rw [Array.getElem?_map, Array.getElem?_range] at hi
    simp [hlt] at hi
    have h1 := hz i hlt
    rw [getElem!_pos zv _ h1] at hi
    exact h.one _ v (by rw [Array.getElem?_eq_getElem h1, hi])
  · have hr' : i < n ∧ r = z := by
      rw [List.getElem?_replicate] at hr
      split at hr
      · rename_i hh; injection hr with hr; exact ⟨hh, hr.symm⟩
      · cases hr
    obtain ⟨hin, rfl⟩ := hr'
    have hj : j < r.length := (List.getElem?_eq_some_iff.1 hx).1
    have hlt : i * r.length + j < n * r.length := by
      have : (i + 1) * r.length ≤ n * r.length := Nat.mul_le_mul_right _ hin
      rw [Nat.add_mul, Nat.one_mul] at this
      omega
    rw [Array.getElem?_map, Array.getElem?_range] at hv
    simp [hlt] at hv
    have h1 := hz _ hlt
    rw [getElem!_pos zv _ h1] at hv
    have h2 : (i * r.length + j) % zv.size = j := by
      rw [h.size, Nat.add_comm, Nat.add_mul_mod_self_right, Nat.mod_eq_of_lt hj]
    have h3 : j < zv.size := by rw [h.size]; exact hj
    refine h.rel j x v hx ?_
    rw [Array.getElem?_eq_getElem h3]
    simp only [h2] at hv
    rw [hv]

theorem VRel_new_ref {ext : Nat → Prop} {β : Nat → Option Nat} {h : Heap} {w w' : World} {fresh esz n len cap : Nat} {rows : List (List AVal)} {e : TypeId} (hn : n = rows.length) (hlen : len ≤ n) (hc : len ≤ cap) (ex : Bool) (c0 : Nat)
    (hlo : c0 ≤ cap) (hex : ex = true → cap = c0) {m : Nat} (hshape : w'.shape? w.heap.size = some (e, m)) (hm : cap * esz ≤ m) :
    VRel (cx ext (newβ β fresh w.heap.size) ((fresh, .arr esz rows) :: h) w') (.ref fresh n 0 len ex c0) (.slice (some ⟨w.heap.size, 0, none⟩) len cap) := by
  refine .ref _ _ _ _ _ _ _ _ hc hlo hex fun esz' rows' hl => ?_
  have hl' : lk ((fresh, .arr esz rows) :: h) fresh = some (.arr esz' rows') := hl
  simp only [lk, if_true] at hl'
  injection hl' with hl'
  injection hl' with e1 e2
  subst e1 e2
  exact ⟨Nat.le_of_eq hn, fun _ => ⟨by omega, .inr ⟨w.heap.size, by simp [cx], by simp, e, m, hshape, by simpa using hm⟩⟩⟩

def abuildSlice (P : Program) (h : Heap) (fresh : Nat) (t : TypeId) (len : Nat) (parts : List (Nat × AVal)) : Option (AVal × Heap) :=
  match tab P t with
  | some ⟨.slice e, _, _, _⟩ =>
    match tab P e with
    | some te =>
      match boxCells te.zero with
      | some z =>
        if len * te.size ≤ 16777216 ∧ z.length = te.size then
          match arows te.size (List.replicate len z) parts with
          | some rows => some (.ref fresh len 0 len true len, (fresh, .arr te.size rows) :: h)
          | none => none
        else none
      | none => none
    | none => none
  | _ => none

section
variable {P : Program} {ext : Nat → Prop} {β : Nat → Option Nat} {p : Nat → Prop} {h : Heap} {w : World} {fresh : Nat}

theorem zero_cells (c : Cx) {te : TI} {t : TypeId} (ht : tab P t = some te) {z : List AVal} (hz : boxCells te.zero = some z) :
    ∃ zv, (∀ w, (zeroValue t).run P w = .ok zv w) ∧ Cells c z zv.cells ∧ ∀ y, y ∈ z → Fz y := by
  obtain ⟨i, d, zv, h1, h2, h3, h4, h5, h6, h7, h8⟩ := tab_spec ht
  refine ⟨zv, fun w => by simp [zeroValue, typeInfo, h1, h3], boxCells_cells (by rw [← h8]; exact VRel_ofV c zv) hz, boxCells_nm (by rw [← h8]; exact Fz_ofV zv) hz⟩

/-- A slice of a new row of cells. -/
theorem out_new_slice (hin : HIn ext β p h w) (hpf : ¬ p fresh) {s : Sem Next} {w' : World} {vs : Array Value} {e : TypeId} {esz : Nat} {rows : List (List AVal)} {len cap c0 : Nat} {ex : Bool}
    (hr : s.run P w = .ok (.value (.slice (some ⟨w.heap.size, 0, none⟩) len cap)) w') (hheap : w'.heap = w.heap.push (.cells vs e) ∧ w'.os = w.os ∧ w'.tape = w.tape ∧ w'.output = w.output) (hrow : ∀ r, r ∈ rows → r.length = esz) (hsz : cap * esz ≤ vs.size) (hsz' : rows.length * esz ≤ vs.size)
    (hrel : ∀ (i : Nat) r (j : Nat) y, rows[i]? = some r → r[j]? = some y → ∃ u, vs[i * esz + j]? = some u ∧ u.oneCell' = true ∧ VRel (cx ext β h w) y u)
    (hnm : ∀ r, r ∈ rows → ∀ y, y ∈ r → Nm p y) (hlen : len ≤ rows.length) (hc : len ≤ cap) (hlo : c0 ≤ cap) (hex : ex = true → cap = c0) :
    Out P ext β p h w fresh s (.ref fresh rows.length 0 len ex c0) ((fresh, .arr esz rows) :: h) :=
  out_new hin hpf hr hheap hrow hsz' hrel hnm (fun _ hshape => VRel_new_ref rfl hlen hc ex c0 hlo hex hshape hsz) (.ref _ _ _ _ _ _ (.inr rfl))

theorem Rows.get {c : Cx} {esz : Nat} {rows : List (List AVal)} {vs : Array Value} (h : Rows c esz rows vs) (i : Nat) (r : List AVal) (j : Nat) (y : AVal) (hr : rows[i]? = some r) (hy : r[j]? = some y) :
    ∃ u, vs[i * esz + j]? = some u ∧ u.oneCell' = true ∧ VRel c y u := by
  have hj : j < esz := by rw [← h.row r (List.mem_of_getElem? hr)]; exact (List.getElem?_eq_some_iff.1 hy).1
  have hi : i < rows.length := (List.getElem?_eq_some_iff.1 hr).1
  have hlt : i * esz + j < vs.size := by
    rw [h.size]
    have : (i + 1) * esz ≤ rows.length * esz := Nat.mul_le_mul_right _ hi
    rw [Nat.add_mul, Nat.one_mul] at this
    omega
  exact ⟨vs[i * esz + j], Array.getElem?_eq_getElem hlt, h.one _ _ (Array.getElem?_eq_getElem hlt), h.rel i r j y _ hr hy (Array.getElem?_eq_getElem hlt)⟩

theorem out_buildSlice (hin : HIn ext β p h w) (hpf : ¬ p fresh) {t : TypeId} {len : Nat} {xs : List (Nat × AVal)} {ps : Array (Nat × Value)} {y : AVal} {h' : Heap} (hl : xs.length = ps.size)
    (hr : ∀ (i : Nat) a b, xs[i]? = some a → ps[i]? = some b → a.1 = b.1 ∧ VRel (cx ext β h w) a.2 b.2) (hn : ∀ a, a ∈ xs → Nm p a.2) (hy : abuildSlice P h fresh t len xs = some (y, h')) :
    Out P ext β p h w fresh (do pure (.value (← Instr.buildSlice t len ps))) y h' := by
  unfold abuildSlice at hy
  split at hy
  case h_2 => cases hy
  rename_i e _ _ _ ht
  split at hy
  case h_2 => cases hy
  rename_i te he
  split at hy
  case h_2 => cases hy
  rename_i z hz
  split at hy
  case isFalse => cases hy
  rename_i hcond
  split at hy
  case h_2 => cases hy
  rename_i rows hrows
  injection hy with hy
  injection hy with e1 e2
  subst e1 e2
  obtain ⟨zv, hzr, hzc, hzn⟩ := zero_cells (cx ext β h w) he hz
  have hzz := Rows.zeros hzc len
  rw [hcond.2] at hzz
  obtain ⟨us, h1, h2, h3⟩ := arows_ok xs ps.toList _ rows _ (by simpa using hl) (fun i a b h1 h2 => hr i a b h1 (by simpa using h2)) hzz hrows
  have hlen : rows.length = len := by rw [h3]; simp
  have hrun : (do pure (.value (← Instr.buildSlice t len ps)) : Sem Next).run P w = .ok (.value (.slice (some ⟨w.heap.size, 0, none⟩) len len)) { w with heap := w.heap.push (.cells us e) } := by
    by_cases h0 : len * te.size = 0
    · have h16 : ¬ (2 ^ 24 < len * te.size) := by omega
      have hr0 : Array.range 0 = #[] := by simp [Array.range]
      rw [h0, hr0, Array.map_empty] at h1
      simp only [Instr.buildSlice, Sem.run_bind, run_underlying (und_slice ht), Result.andThen_ok, run_size w he]
      simp [h0, h1, newRow, hr0]
    · have h16 : ¬ (2 ^ 24 < len * te.size) := by omega
      simp [Instr.buildSlice, run_underlying (und_slice ht), run_size w he, h16, h0, hzr, h1, newRow]
  have := out_new_slice (rows := rows) (c0 := len) (ex := true) hin hpf hrun ⟨rfl, rfl, rfl, rfl⟩ h2.row (by rw [h2.size, hlen]; exact Nat.le_refl _) (by rw [h2.size]; exact Nat.le_refl _) (fun i r j y hi hj => h2.get i r j y hi hj)
    (arows_nm xs _ rows hn (fun r hr x hx => by rw [List.mem_replicate] at hr; exact Fz.nm (hzn x (hr.2 ▸ hx)) p) hrows) (Nat.le_of_eq hlen.symm) (Nat.le_refl _) (Nat.le_refl _) (fun _ => rfl)
  rwa [hlen] at this

def amakeSlice (P : Program) (h : Heap) (fresh : Nat) (t : TypeId) (l c : AVal) : Option (AVal × Heap) :=
  match l, c with
  | .int _ l, .int _ c =>
    match tab P t with
    | some ⟨.slice e, _, _, _⟩ =>
      match tab P e with
      | some te =>
        match boxCells te.zero with
        | some z =>
          if 0 ≤ l ∧ l ≤ c ∧ ((c ≤ 4294967296 ∧ te.bytes ≤ 16384) ∨ (c ≤ 2199023255552 ∧ te.bytes ≤ 16)) ∧ z.length = te.size then
            some (.ref fresh c.toNat 0 l.toNat true c.toNat, (fresh, .arr te.size (List.replicate c.toNat z)) :: h)
          else none
        | none => none
      | none => none
    | _ => none
  | _, _ => none

theorem out_makeSlice (hin : HIn ext β p h w) (hpf : ¬ p fresh) {t : TypeId} {l c y : AVal} {lv cv : Value} {h' : Heap} (hl : VRel (cx ext β h w) l lv) (hc : VRel (cx ext β h w) c cv) (hy : amakeSlice P h fresh t l c = some (y, h')) :
    Out P ext β p h w fresh (do pure (.value (← Instr.makeSlice t lv cv))) y h' := by
  unfold amakeSlice at hy
  split at hy
  case h_2 => cases hy
  rename_i k1 l k2 c
  cases hl; cases hc
  split at hy
  case h_2 => cases hy
  rename_i e _ _ _ ht
  split at hy
  case h_2 => cases hy
  rename_i te he
  split at hy
  case h_2 => cases hy
  rename_i z hz
  split at hy
  case isFalse => cases hy
  rename_i hcond
  obtain ⟨h0, h1, h23, h4⟩ := hcond
  have h2 : c ≤ 2199023255552 := by omega
  injection hy with hy
  injection hy with e1 e2
  subst e1 e2
  obtain ⟨zv, hzr, hzc, hzn⟩ := zero_cells (cx ext β h w) he hz
  obtain ⟨ie, hie, hbytes⟩ := run_bytes (P := P) w he
  have hzz := Rows.zeros hzc c.toNat
  rw [h4] at hzz
  have wl : IntKind.i64.wrap l = l := by unfold IntKind.wrap; simp [IntKind.signed, IntKind.bits]; omega
  have wc : IntKind.i64.wrap c = c := by unfold IntKind.wrap; simp [IntKind.signed, IntKind.bits]; omega
  have hb1 : ¬ (281474976710656 < (ie.bytes : Int) * c) := by
    rw [hbytes]
    rcases h23 with ⟨k1, k2⟩ | ⟨k1, k2⟩
    · have : (te.bytes : Int) * c ≤ 16384 * 4294967296 := Int.mul_le_mul (by omega) k1 (by omega) (by omega)
      omega
    · have : (te.bytes : Int) * c ≤ 16 * 2199023255552 := Int.mul_le_mul (by omega) k1 (by omega) (by omega)
      omega
  have hcn : ¬ (c < 0) := by omega
  have hln : ¬ (l < 0) := by omega
  have hlc : ¬ (c < l) := by omega
  have hrun : ∃ vs, (do pure (.value (← Instr.makeSlice t (.int k1 l) (.int k2 c))) : Sem Next).run P w = .ok (.value (.slice (some ⟨w.heap.size, 0, none⟩) l.toNat c.toNat)) { w with heap := w.heap.push (.cells vs e) } ∧
      Rows (cx ext β h w) te.size (List.replicate c.toNat z) vs := by
    refine ⟨_, ?_, hzz⟩
    by_cases hn0 : c.toNat * te.size = 0
    · simp only [Instr.makeSlice, Sem.run_bind, run_underlying (und_slice ht), Result.andThen_ok, asInt, asIntOf, hie, Sem.run_pure, wl, wc]
      have hr0 : Array.range 0 = #[] := by simp [Array.range]
      simp [hcn, hb1, hln, hlc, run_size w he, hn0, newRow, hr0]
    · simp only [Instr.makeSlice, Sem.run_bind, run_underlying (und_slice ht), Result.andThen_ok, asInt, asIntOf, hie, Sem.run_pure, wl, wc]
      simp [hcn, hb1, hln, hlc, run_size w he, hn0, hzr, newRow]
  obtain ⟨vs, hrun, hvs⟩ := hrun
  have hlen : (List.replicate c.toNat z).length = c.toNat := by simp
  have := out_new_slice (rows := List.replicate c.toNat z) (c0 := c.toNat) (ex := true) hin hpf hrun ⟨rfl, rfl, rfl, rfl⟩ hvs.row (by rw [hvs.size, hlen]; exact Nat.le_refl _) (by rw [hvs.size]; exact Nat.le_refl _) (fun i r j y hi hj => hvs.get i r j y hi hj)
    (fun r hr x hx => by rw [List.mem_replicate] at hr; exact Fz.nm (hzn x (hr.2 ▸ hx)) p) (by rw [hlen]; omega) (by omega) (Nat.le_refl _) (fun _ => rfl)
  rwa [hlen] at this

end
end Go.AM
end

section
namespace Go.AM
open Go

/-- What a slice, or a text, is read as. -/
def rowsOf (h : Heap) : AVal → Option (List (List AVal))
  | .sl rows _ => some rows
  | .ref id sz base len _ _ =>
    match lk h id with
    | some (.arr _ rows) => if rows.length = sz then some ((rows.drop base).take len) else none
    | _ => none
  | .str s => some (s.data.toList.map fun b => [.int .u8 b.toNat])
  | _ => none

/-- Rows of the machine's values. -/
structure RowVals (c : Cx) (size : Nat) (rows : List (List AVal)) (vs : List Value) : Prop where
  len : vs.length = rows.length * size
  one : ∀ u, u ∈ vs → u.oneCell' = true
  rel : ∀ (i : Nat) r (j : Nat) y u, rows[i]? = some r → r[j]? = some y → vs[i * size + j]? = some u → VRel c y u

theorem rows_get {α : Type} {rows : List (List α)} {size : Nat} (hrow : ∀ r, r ∈ rows → r.length = size) {k : Nat} (hk : k < rows.length * size) :
    ∃ r y, rows[k / size]? = some r ∧ r[k % size]? = some y ∧ k = k / size * size + k % size := by
  have hs : 0 < size := by
    rcases Nat.eq_zero_or_pos size with h | h
    · rw [h] at hk; simp at hk
    · exact h
  have h1 : k / size < rows.length := Nat.div_lt_of_lt_mul (by rw [Nat.mul_comm]; exact hk)
  have h2 : k % size < size := Nat.mod_lt _ hs
  have h3 : rows[k / size].length = size := hrow _ (List.getElem_mem h1)
  refine ⟨rows[k / size], rows[k / size][k % size]'(by rw [h3]; exact h2), List.getElem?_eq_getElem h1, List.getElem?_eq_getElem _, ?_⟩
  have := Nat.div_add_mod k size
  rw [Nat.mul_comm] at this
  exact this.symm

/-- What is read of a slice that lies somewhere. -/
theorem src_cells {P : Program} {c : Cx} {size : Nat} {tx e' : TypeId} (hk : P.underlying tx = some (.slice e')) {rows : List (List AVal)} {a : Option Addr} {cap blk off : Nat}
    (hrow : ∀ r, r ∈ rows → r.length = size) (ha : rows ≠ [] → a = some ⟨blk, off, none⟩)
    (hcell : ∀ (i : Nat) r (j : Nat) x, rows[i]? = some r → r[j]? = some x → ∃ u, c.w.cell? ⟨blk, off + (i * size + j), none⟩ = some u ∧ u.oneCell' = true ∧ VRel c x u) :
    ∃ news, Src P size tx (.slice a rows.length cap) rows.length news c.w ∧ RowVals c size rows news := by
  let f : Nat → Value := fun k => (c.w.cell? ⟨blk, off + k, none⟩).getD undef
  let news := (List.range (rows.length * size)).map f
  have hnl : news.length = rows.length * size := by simp [news]
  have hget : ∀ (k : Nat) u, news[k]? = some u → k < rows.length * size ∧ u = f k := fun k u h => by
    have hlt := (List.getElem?_eq_some_iff.1 h).1
    rw [hnl] at hlt
    refine ⟨hlt, ?_⟩
    simp only [news, List.getElem?_map] at h
    rw [List.getElem?_range hlt] at h
    simpa using h.symm
  have hf : ∀ k, k < rows.length * size → c.w.cell? ⟨blk, off + k, none⟩ = some (f k) ∧ (f k).oneCell' = true ∧ ∀ r y, rows[k / size]? = some r → r[k % size]? = some y → VRel c y (f k) := fun k hk => by
    obtain ⟨r, y, h1, h2, h3⟩ := rows_get hrow hk
    obtain ⟨u, h4, h5, h6⟩ := hcell _ r _ y h1 h2
    rw [← h3] at h4
    have : f k = u := by simp [f, h4]
    rw [this]
    refine ⟨h4, h5, fun r' y' h7 h8 => ?_⟩
    rw [h1] at h7
    injection h7 with h7
    subst h7
    rw [h2] at h8
    injection h8 with h8
    exact h8 ▸ h6
  have hone : ∀ u, u ∈ news → u.oneCell' = true := fun u hu => by
    obtain ⟨k, hk⟩ := List.getElem?_of_mem hu
    obtain ⟨h1, rfl⟩ := hget k u hk
    exact (hf k h1).2.1
  have hrel : RowVals c size rows news := by
    refine ⟨hnl, hone, fun i r j y u h1 h2 h3 => ?_⟩
    obtain ⟨h4, rfl⟩ := hget _ u h3
    have hj : j < size := by rw [← hrow r (List.mem_of_getElem? h1)]; exact (List.getElem?_eq_some_iff.1 h2).1
    have hd : (i * size + j) / size = i := by
      rw [Nat.add_comm, Nat.add_mul_div_right _ _ (by omega), Nat.div_eq_of_lt hj]; omega
    have hm : (i * size + j) % size = j := by
      rw [Nat.add_comm, Nat.add_mul_mod_self_right, Nat.mod_eq_of_lt hj]
    exact (hf _ h4).2.2 r y (by rw [hd]; exact h1) (by rw [hm]; exact h2)
  by_cases hne : rows = []
  · subst hne
    have hn0 : news = [] := by simp [news]
    refine ⟨news, ?_, hrel⟩
    cases a with
    | none => rw [hn0]; exact Src.ofNil c.w hk cap
    | some ad => exact Src.ofSlice c.w hk ad 0 cap news (by simpa using hnl) (fun j u hj => by rw [hn0] at hj; simp at hj) hone
  · rw [ha hne]
    refine ⟨news, Src.ofSlice c.w hk _ rows.length cap news hnl (fun j u hj => ?_) hone, hrel⟩
    obtain ⟨h1, rfl⟩ := hget j u hj
    rw [addr_add]
    exact (hf j h1).1

section
variable {P : Program} {ext : Nat → Prop} {β : Nat → Option Nat} {p : Nat → Prop} {h : Heap} {w : World} {fresh : Nat}

/-- What is read of a slice of an object. -/
theorem ref_cells (hin : HIn ext β p h w) {id base len cap esz : Nat} {rows : List (List AVal)} {a : Option Addr} (hl : lk h id = some (.arr esz rows)) (hb : base + len ≤ rows.length) (hcap : len ≤ cap)
    (hat : (cx ext β h w).RefAt id esz base cap a) :
    ∃ blk, ((rows.drop base).take len ≠ [] → a = some ⟨blk, base * esz, none⟩) ∧ ∀ (i : Nat) r (j : Nat) x, ((rows.drop base).take len)[i]? = some r → r[j]? = some x →
      ∃ u, w.cell? ⟨blk, base * esz + (i * esz + j), none⟩ = some u ∧ u.oneCell' = true ∧ VRel (cx ext β h w) x u := by
  rcases hat with h0 | ⟨b, hb', ha, e, n, hsh, hn⟩
  · have : len = 0 := by omega
    subst this
    exact ⟨0, fun hh => by simp at hh, fun i r j x h1 => by simp at h1⟩
  · refine ⟨b, fun _ => ha, fun i r j x h1 h2 => ?_⟩
    rw [List.getElem?_take] at h1
    split at h1
    case isFalse => cases h1
    rw [List.getElem?_drop] at h1
    obtain ⟨_, h4⟩ := hin.ob id _ hl
    rw [hb'] at h4
    obtain ⟨cs, e', h5, _, h7⟩ := h4
    obtain ⟨u, h8, h9, h10⟩ := h7 (base + i) r j x h1 h2
    refine ⟨u, ?_, h9, h10⟩
    have h5' : w.heap[b]? = some (.cells cs e' (0, 0)) := h5
    simp only [World.cell?, h5']
    rw [← h8, Nat.add_mul, Nat.add_assoc]
    simp

/-- What may be appended to a slice: another one, or a text to bytes. -/
def srcK (P : Program) (size : Nat) (tx : TypeId) (x : AVal) : Prop :=
  (∃ s, x = .str s ∧ size = 1 ∧ P.underlying tx = some .string) ∨ ((∀ s, x ≠ .str s) ∧ ∃ e, P.underlying tx = some (.slice e))

theorem src_ok (hin : HIn ext β p h w) {size : Nat} {tx : TypeId} {x : AVal} {v : Value} {rows : List (List AVal)} (htx : srcK P size tx x)
    (hv : VRel (cx ext β h w) x v) (hn : Nm p x) (hr : rowsOf h x = some rows) (hrow : ∀ r, r ∈ rows → r.length = size) :
    (∃ news, Src P size tx v rows.length news w ∧ RowVals (cx ext β h w) size rows news) ∧ ∀ r, r ∈ rows → ∀ y, y ∈ r → Nm p y := by
  cases hv <;> simp only [rowsOf] at hr <;> try (cases hr; done)
  case str s =>
    injection hr with hr
    subst hr
    have ht : size = 1 ∧ P.underlying tx = some .string := by
      rcases htx with ⟨_, _, h'⟩ | ⟨h', _⟩
      · exact h'
      · exact absurd rfl (h' s)
    obtain ⟨hsz, ht⟩ := ht
    subst hsz
    refine ⟨⟨byteCells s, ?_, ?_⟩, fun r hr y hy => ?_⟩
    · have := Src.ofString w ht s
      have hl : (s.data.toList.map fun b => [AVal.int .u8 b.toNat]).length = s.size := by simp
      rw [hl]; exact this
    · refine ⟨by simp [byteCells], fun u hu => ?_, fun i r j y u h1 h2 h3 => ?_⟩
      · obtain ⟨b, _, rfl⟩ := List.mem_map.1 hu; rfl
      · rw [List.getElem?_map] at h1
        obtain ⟨b, hb, rfl⟩ := Option.map_eq_some_iff.1 h1
        cases j with
        | succ j => simp at h2
        | zero =>
          simp at h2
          subst h2
          have h3' : (byteCells s)[i]? = some u := by simpa using h3
          simp only [byteCells, List.getElem?_map, hb] at h3'
          injection h3' with h3'
          subst h3'
          exact .int _ _
    · obtain ⟨b, _, rfl⟩ := List.mem_map.1 hr
      rw [List.mem_singleton] at hy
      exact hy ▸ .int _ _
  case sl rows' lim a cap esz blk off vals hcap hlim hrow' ha hcell hrel =>
    injection hr with hr
    subst hr
    have hk : ∃ e, P.underlying tx = some (.slice e) := by
      rcases htx with ⟨s, h', _⟩ | ⟨_, h'⟩
      · cases h'
      · exact h'
    obtain ⟨e, ht⟩ := hk
    cases hn with | sl _ _ hn =>
    refine ⟨src_cells (c := cx ext β h w) (cap := cap) ht hrow ha (fun i r j x h1 h2 => ?_), hn⟩
    have he : esz = size := by rw [← hrow r (List.mem_of_getElem? h1)]; exact (hrow' r (List.mem_of_getElem? h1)).symm
    subst he
    exact ⟨vals i j, (hcell i r j x h1 h2).2.1, (hcell i r j x h1 h2).2.2, hrel i r j x h1 h2⟩
  case ref id sz base len ex c0 a cap hcap hlo hex hok =>
    split at hr
    case h_2 => cases hr
    rename_i esz rows0 hl
    split at hr
    case isFalse => cases hr
    rename_i hsz
    injection hr with hr
    subst hr
    have hk : ∃ e, P.underlying tx = some (.slice e) := by
      rcases htx with ⟨s, h', _⟩ | ⟨_, h'⟩
      · cases h'
      · exact h'
    obtain ⟨e, ht⟩ := hk
    obtain ⟨_, h2⟩ := hok esz rows0 hl
    obtain ⟨h3, h4⟩ := h2 hsz.symm
    obtain ⟨blk, h5, h6⟩ := ref_cells hin hl (by omega) hcap h4
    have hlen : ((rows0.drop base).take len).length = len := by simp; omega
    obtain ⟨hrows, _⟩ := hin.ob id _ hl
    have := src_cells (P := P) (c := cx ext β h w) (cap := cap) ht hrow h5 (fun i r j x h1 h2 => by
      have he : esz = size := by
        have hm := List.mem_of_getElem? h1
        rw [← hrow r hm]; exact (hrows r (List.mem_of_mem_drop (List.mem_of_mem_take hm))).symm
      subst he
      exact h6 i r j x h1 h2)
    rw [hlen] at this ⊢
    exact ⟨this, fun r hr y hy => (hin.nm id _ hl).2 r (List.mem_of_mem_drop (List.mem_of_mem_take hr)) y hy⟩

/-- An object is laid anew, in a new block, with more rows. -/
theorem HIn.move (hin : HIn ext β p h w) {w' : World} {id esz : Nat} {rows rows' : List (List AVal)} {o : Obj} (hid : lk h id = some (.arr esz rows)) (hheap : w'.heap = w.heap.push o ∧ w'.os = w.os ∧ w'.tape = w.tape ∧ w'.output = w.output) (hlt : rows.length < rows'.length)
    (hnm : ∀ r, r ∈ rows' → ∀ y, y ∈ r → Nm p y)
    (hob : (∀ q, Step q (cx ext β h w) (cx ext (newβ β id w.heap.size) (hset h id (.arr esz rows')) w')) → ObIn (cx ext (newβ β id w.heap.size) (hset h id (.arr esz rows')) w') id (.arr esz rows')) :
    HIn ext (newβ β id w.heap.size) p (hset h id (.arr esz rows')) w' ∧ Evo (owns β h) w (owns (newβ β id w.heap.size) (hset h id (.arr esz rows'))) w' ∧
    ∀ q, Step q (cx ext β h w) (cx ext (newβ β id w.heap.size) (hset h id (.arr esz rows')) w') := by
  have hold : ∀ k, k < w.heap.size → w'.heap[k]? = w.heap[k]? := fun k hk => by
    rw [hheap.1, Array.getElem?_push, if_neg (Nat.ne_of_lt hk)]
  have hlk : ∀ j, lk (hset h id (.arr esz rows')) j = if j = id then some (.arr esz rows') else lk h j := fun j => lk_hset _ hid j
  have hblt : ∀ j x c, lk h j = some x → β j = some c → c < w.heap.size := fun j x c hj hc => by
    have := hin.ob j x hj
    cases x with
    | arr esz rows =>
      obtain ⟨_, h2⟩ := this
      have hc' : (cx ext β h w).β j = some c := hc
      rw [hc'] at h2
      obtain ⟨cs, e, h3, _⟩ := h2
      exact (Array.getElem?_eq_some_iff.1 h3).1
    | mp es =>
      obtain ⟨b, ms, h1, h2, _⟩ := this
      have : b = c := by have := h1.symm.trans hc; simpa using this
      exact this ▸ (Array.getElem?_eq_some_iff.1 h2).1
  have hown : ∀ c, owns (newβ β id w.heap.size) (hset h id (.arr esz rows')) c → c = w.heap.size ∨ owns β h c := by
    rintro c ⟨j, x, h1, h2⟩
    rw [hlk] at h1
    by_cases e : j = id
    · simp only [newβ, if_pos e] at h2
      injection h2 with h2
      exact .inl h2.symm
    · simp only [newβ, if_neg e] at h1 h2
      exact .inr ⟨j, x, h1, h2⟩
  have hshape : ∀ k x, w.shape? k = some x → w'.shape? k = some x := fun k x hx => by
    have hk : k < w.heap.size := by
      rcases Nat.lt_or_ge k w.heap.size with h1 | h1
      · exact h1
      · simp [World.shape?, Array.getElem?_eq_none h1] at hx
    unfold World.shape? at *
    rw [hold k hk]; exact hx
  have hstep : ∀ q, Step q (cx ext β h w) (cx ext (newβ β id w.heap.size) (hset h id (.arr esz rows')) w') := fun q => by
    refine ⟨fun k off v hk hc => ?_, hshape, fun j _ esz1 rows1 hr => ?_, fun j _ es hr => ?_⟩
    · have hkl : k < w.heap.size := cell_lt hc
      refine ⟨fun hk' => hk (hk'.imp (fun e => e) fun h1 => ?_), (cell_of_heap (hold k hkl) off).trans hc⟩
      rcases hown k h1 with e | e
      · omega
      · exact e
    · have hr' : lk (hset h id (.arr esz rows')) j = some (.arr esz1 rows1) := hr
      rw [hlk] at hr'
      by_cases e : j = id
      · rw [if_pos e] at hr'
        injection hr' with hr'
        injection hr' with e1 e2
        subst e1 e2 e
        exact ⟨rows, hid, by omega, fun e => by omega⟩
      · rw [if_neg e] at hr'
        exact ⟨rows1, hr', Nat.le_refl _, fun _ => by simp [cx, newβ, e]⟩
    · have hr' : lk (hset h id (.arr esz rows')) j = some (.mp es) := hr
      rw [hlk] at hr'
      by_cases e : j = id
      · rw [if_pos e] at hr'; injection hr' with hr'; cases hr'
      · rw [if_neg e] at hr'
        exact ⟨es, hr', by simp [cx, newβ, e]⟩
  refine ⟨⟨fun j x hj => ?_, fun j x hj => ?_, fun j j' x x' c hj hj' hc hc' => ?_, fun c hc => ?_⟩, ?_, hstep⟩
  · rw [hlk] at hj
    by_cases e : j = id
    · rw [if_pos e] at hj
      injection hj with hj
      rw [e]
      exact hj ▸ hob hstep
    · rw [if_neg e] at hj
      exact ObIn.step (hstep p) (by simp [cx, newβ, e]) (fun c hc => hold c (hblt j x c hj hc)) (hin.nm j x hj).2 (hin.ob j x hj)
  · rw [hlk] at hj
    by_cases e : j = id
    · rw [if_pos e] at hj
      injection hj with hj
      exact ⟨e ▸ (hin.nm id _ hid).1, hj ▸ hnm⟩
    · rw [if_neg e] at hj
      exact hin.nm j x hj
  · rw [hlk] at hj hj'
    by_cases e : j = id <;> by_cases e' : j' = id
    · rw [e, e']
    · simp only [newβ, if_pos e] at hc
      simp only [newβ, if_neg e'] at hj' hc'
      injection hc with hc
      have := hblt j' x' c hj' hc'
      omega
    · simp only [newβ, if_pos e'] at hc'
      simp only [newβ, if_neg e] at hj hc
      injection hc' with hc'
      have := hblt j x c hj hc
      omega
    · simp only [newβ, if_neg e] at hj hc
      simp only [newβ, if_neg e'] at hj' hc'
      exact hin.inj j j' x x' c hj hj' hc hc'
  · have hs : w'.heap.size = w.heap.size + 1 := by rw [hheap.1]; simp
    have h1 := hin.ext c hc
    refine ⟨by omega, fun h2 => ?_⟩
    rcases hown c h2 with e | e
    · omega
    · exact h1.2 e
  · have hs : w'.heap.size = w.heap.size + 1 := by rw [hheap.1]; simp
    refine ⟨by omega, fun k hk _ => hold k hk, fun k hk h1 => ?_, hshape, hheap.2⟩
    rcases hown k h1 with e | e
    · omega
    · exact e

/-- A slice that lies wholly in rows, for the machine's look at its cells. -/
theorem firstCells_run {a : Option Addr} {size n cap : Nat} {news : List Value} {tx : TypeId} {w' : World} (hs : Src P size tx (.slice a n cap) n news w') (sLen : Nat) (he : sLen = n) (sCap : Nat) :
    (Builtin.firstCells size sLen (.slice a sLen sCap)).run P w'.drew = .ok news.toArray w'.drew := by
  subst he
  have := hs.cellsD
  cases a <;> exact this

/-- append, where there is no room: a new row. -/
theorem run_grow {st tx ty e : TypeId} {te : TI} (ht : P.underlying st = some (.slice e)) (he : tab P e = some te) {base : Option Addr} {sLen sCap : Nat} {olds : List Value}
    (hold : (Builtin.firstCells te.size sLen (.slice base sLen sCap)).run P w.drew = .ok olds.toArray w.drew) (hol : olds.length = sLen * te.size) {x : Value} {n : Nat} {news : List Value} (hs : Src P te.size tx x n news w)
    (hg : sCap < sLen + n) (hn : (sLen + n ≤ 4294967296 ∧ te.bytes ≤ 16384) ∨ (sLen + n ≤ 2199023255552 ∧ te.bytes ≤ 16)) :
    ∃ cap vs w', (Builtin.append_ #[st, tx] ty #[.slice base sLen sCap, x]).run P w = .ok (.slice (some ⟨w.heap.size, 0, none⟩) (sLen + n) cap) w' ∧ (w'.heap = w.heap.push (.cells vs e) ∧ w'.os = w.os ∧ w'.tape = w.tape ∧ w'.output = w.output) ∧ sLen + n ≤ cap ∧ cap * te.size ≤ vs.size ∧
      ∀ k, k < olds.length + news.length → vs[k]? = (olds ++ news)[k]? := by
  obtain ⟨i, d, z, h1, h2, h3, h4, h5, h6, h7, h8⟩ := tab_spec he
  rw [← h6] at hold hol hs
  have hfit : Builtin.nextslicecap (sLen + n) sCap * i.bytes ≤ 281474976710656 := growslice_fits hg (by
    rw [h7]
    rcases hn with ⟨k1, k2⟩ | ⟨k1, k2⟩
    · calc (sLen + n) * te.bytes ≤ 4294967296 * 16384 := Nat.mul_le_mul k1 k2
        _ ≤ 140737488355328 := by omega
    · calc (sLen + n) * te.bytes ≤ 2199023255552 * 16 := Nat.mul_le_mul k1 k2
        _ ≤ 140737488355328 := by omega)
  have hrun := run_append_grow_src (P := P) w st tx ty e i z ht h1 h3 base sLen sCap olds hold x n news hs hg (by omega) hfit
  have hcap : sLen + n ≤ grownCap w (sLen + n) sCap e := Nat.le_add_right _ _
  have hzs : (Builtin.zeroCells z.cells (grownCap w (sLen + n) sCap e - (sLen + n))).size = (grownCap w (sLen + n) sCap e - (sLen + n)) * i.size := by
    simp [Builtin.zeroCells, h5, h6]
  refine ⟨_, _, _, hrun, ⟨rfl, rfl, rfl, rfl⟩, hcap, ?_, fun k hk => ?_⟩
  · rw [Array.size_append, hzs]
    simp only [List.size_toArray, List.length_append, hol, hs.newsLen, h6]
    rw [← Nat.add_mul, ← Nat.add_mul]
    exact Nat.mul_le_mul_right _ (by omega)
  · rw [Array.getElem?_append, if_pos (by simpa using hk)]
    simp

/-- append, where there is room: the cells behind are written. -/
theorem run_room {st tx ty e : TypeId} {te : TI} (ht : P.underlying st = some (.slice e)) (he : tab P e = some te) {b off sLen sCap : Nat} {x : Value} {n : Nat} {news : List Value} (hs : Src P te.size tx x n news w) (hroom : sLen + n ≤ sCap)
    {cur : Array Value} {et : TypeId} (hb : w.heap[b]? = some (.cells cur et (0, 0))) (hl : off + (sLen + n) * te.size ≤ cur.size) :
    (Builtin.append_ #[st, tx] ty #[.slice (some ⟨b, off, none⟩) sLen sCap, x]).run P w =
      .ok (.slice (some ⟨b, off, none⟩) (sLen + n) sCap) (w.setRow b (cur.toList.take (off + sLen * te.size) ++ news ++ cur.toList.drop (off + sLen * te.size + news.length)).toArray) := by
  obtain ⟨i, d, z, h1, h2, h3, h4, h5, h6, h7, h8⟩ := tab_spec he
  rw [← h6] at hs hl ⊢
  have hst := run_storeCells_at (P := P) b (off + sLen * i.size) et news 0 cur w hb (by rw [hs.newsLen]; rw [Nat.add_mul] at hl; omega) hs.one
  simp only [Nat.add_zero] at hst
  rcases hs.kind with ⟨e', hk⟩ | hk <;> simp [Builtin.append_, run_underlying ht, run_underlying hk, sizeOf, typeInfo, h1, hs.len, hroom, hs.cells, addr_add, hst]

/-- append of nothing. -/
theorem run_nothing {st tx ty e : TypeId} {te : TI} (ht : P.underlying st = some (.slice e)) (he : tab P e = some te) {base : Option Addr} {sLen sCap : Nat} (hle : sLen ≤ sCap) {x : Value} {news : List Value} (hs : Src P te.size tx x 0 news w) :
    (Builtin.append_ #[st, tx] ty #[.slice base sLen sCap, x]).run P w = .ok (.slice base sLen sCap) w := by
  obtain ⟨i, d, z, h1, h2, h3, h4, h5, h6, h7, h8⟩ := tab_spec he
  rw [← h6] at hs
  have hn0 : news = [] := by have := hs.newsLen; simpa using this
  subst hn0
  rcases hs.kind with ⟨e', hk⟩ | hk <;> cases base <;> simp [Builtin.append_, run_underlying ht, run_underlying hk, sizeOf, typeInfo, h1, hs.len, hle, hs.cells, storeCells]

end
end Go.AM
end

section
namespace Go.AM
open Go

section
variable {P : Program} {ext : Nat → Prop} {β : Nat → Option Nat} {p : Nat → Prop} {h : Heap} {w : World} {fresh : Nat}

/-- Another list of the same objects. -/
theorem HIn.congr (hin : HIn ext β p h w) {h' : Heap} (e : ∀ j, lk h' j = lk h j) :
    HIn ext β p h' w ∧ Evo (owns β h) w (owns β h') w ∧ ∀ q, Step q (cx ext β h w) (cx ext β h' w) := by
  have hown : ∀ b, owns β h' b ↔ owns β h b := fun b => ⟨fun ⟨j, o, h1, h2⟩ => ⟨j, o, e j ▸ h1, h2⟩, fun ⟨j, o, h1, h2⟩ => ⟨j, o, (e j).symm ▸ h1, h2⟩⟩
  have st : ∀ q, Step q (cx ext β h w) (cx ext β h' w) := fun q =>
    { cell := fun b o v h1 h2 => ⟨fun h3 => h1 (h3.imp (fun e => e) fun h4 => (hown b).1 h4), h2⟩
      shape := fun _ _ h => h
      arr := fun id _ esz rows h1 => ⟨rows, (e id).symm.trans h1, Nat.le_refl _, fun _ => rfl⟩
      mp := fun id _ es h1 => ⟨es, (e id).symm.trans h1, rfl⟩ }
  refine ⟨⟨fun id o ho => ?_, fun id o ho => hin.nm id o (e id ▸ ho), fun id id' o o' b h1 h2 => hin.inj id id' o o' b (e id ▸ h1) (e id' ▸ h2), fun b hb => ⟨(hin.ext b hb).1, fun h1 => (hin.ext b hb).2 ((hown b).1 h1)⟩⟩,
    ⟨Nat.le_refl _, fun _ _ _ => rfl, fun b _ h1 => (hown b).1 h1, fun _ _ h => h, rfl, rfl, rfl⟩, st⟩
  rw [e] at ho
  exact ObIn.step (st p) rfl (fun _ _ => rfl) (hin.nm id o ho).2 (hin.ob id o ho)

/-- An object that has no block yet. -/
theorem HIn.unborn (hin : HIn ext β p h w) (hpf : ¬ p fresh) (esz : Nat) :
    HIn ext (fun j => if j = fresh then none else β j) (fun j => p j ∨ j = fresh) ((fresh, .arr esz []) :: h) w ∧
    Evo (owns β h) w (owns (fun j => if j = fresh then none else β j) ((fresh, .arr esz []) :: h)) w ∧
    Step p (cx ext β h w) (cx ext (fun j => if j = fresh then none else β j) ((fresh, .arr esz []) :: h) w) := by
  have hlk : ∀ j, lk ((fresh, .arr esz []) :: h) j = if j = fresh then some (.arr esz []) else lk h j := fun j => by
    simp only [lk]
    by_cases e : fresh = j
    · simp [e]
    · have : ¬ j = fresh := fun e' => e e'.symm
      simp [e, this]
  have hown : ∀ c, owns (fun j => if j = fresh then none else β j) ((fresh, .arr esz []) :: h) c → owns β h c := by
    rintro c ⟨j, x, h1, h2⟩
    rw [hlk] at h1
    by_cases e : j = fresh
    · simp only [if_pos e] at h2; cases h2
    · simp only [if_neg e] at h1 h2
      exact ⟨j, x, h1, h2⟩
  have hstep : Step p (cx ext β h w) (cx ext (fun j => if j = fresh then none else β j) ((fresh, .arr esz []) :: h) w) := by
    refine ⟨fun k off v hk hc => ⟨fun hk' => hk (hk'.imp (fun e => e) fun h1 => hown k h1), hc⟩, fun _ _ h => h, fun j hj esz1 rows hr => ?_, fun j hj es hr => ?_⟩
    · have e : j ≠ fresh := fun e => hpf (e ▸ hj)
      have hr' : lk ((fresh, .arr esz []) :: h) j = some (.arr esz1 rows) := hr
      rw [hlk, if_neg e] at hr'
      exact ⟨rows, hr', Nat.le_refl _, fun _ => by simp [cx, e]⟩
    · have e : j ≠ fresh := fun e => hpf (e ▸ hj)
      have hr' : lk ((fresh, .arr esz []) :: h) j = some (.mp es) := hr
      rw [hlk, if_neg e] at hr'
      exact ⟨es, hr', by simp [cx, e]⟩
  refine ⟨⟨fun j x hj => ?_, fun j x hj => ?_, fun j j' x x' c hj hj' hc hc' => ?_, fun c hc => ⟨(hin.ext c hc).1, fun h1 => (hin.ext c hc).2 (hown c h1)⟩⟩,
    ⟨Nat.le_refl _, fun _ _ _ => rfl, fun k _ h1 => hown k h1, fun _ _ h => h, rfl, rfl, rfl⟩, hstep⟩
  · rw [hlk] at hj
    by_cases e : j = fresh
    · rw [if_pos e] at hj
      injection hj with hj
      subst hj
      refine ⟨fun r hr => by simp at hr, ?_⟩
      have : (cx ext (fun j => if j = fresh then none else β j) ((fresh, .arr esz []) :: h) w).β j = none := by simp [cx, e]
      rw [this]
    · rw [if_neg e] at hj
      exact ObIn.step hstep (by simp [cx, e]) (fun c hc => rfl) (hin.nm j x hj).2 (hin.ob j x hj)
  · rw [hlk] at hj
    by_cases e : j = fresh
    · rw [if_pos e] at hj
      injection hj with hj
      subst hj
      exact ⟨.inr e, fun r hr => by simp at hr⟩
    · rw [if_neg e] at hj
      exact ⟨.inl (hin.nm j x hj).1, Ob.nm_mono (fun _ => .inl) (hin.nm j x hj).2⟩
  · rw [hlk] at hj hj'
    by_cases e : j = fresh
    · simp only [if_pos e] at hc; cases hc
    · by_cases e' : j' = fresh
      · simp only [if_pos e'] at hc'; cases hc'
      · simp only [if_neg e] at hj hc
        simp only [if_neg e'] at hj' hc'
        exact hin.inj j j' x x' c hj hj' hc hc'

/-- Rows are written behind those of a slice. -/
theorem out_room (hin : HIn ext β p h w) {s : Sem Next} {id base len cap esz n : Nat} {ex' : Bool} {c1 : Nat} {rows new : List (List AVal)} {news : List Value} {b : Nat}
    (hl : lk h id = some (.arr esz rows)) (hb : β id = some b) {e : TypeId} {m : Nat} (hsh : w.shape? b = some (e, m)) (hm : (base + cap) * esz ≤ m) (hq : base + len ≤ rows.length) (hcap : len + n ≤ cap) (hn : new.length = n)
    (hrow : ∀ r, r ∈ new → r.length = esz) (hnew : RowVals (cx ext β h w) esz new news) (hnm : ∀ r, r ∈ new → ∀ y, y ∈ r → Nm p y) (hid : p id) (hlo : c1 ≤ cap) (hex : ex' = true → cap = c1)
    (hr : ∀ cur, w.heap[b]? = some (.cells cur e (0, 0)) → base * esz + (len + n) * esz ≤ cur.size →
      s.run P w = .ok (.value (.slice (some ⟨b, base * esz, none⟩) (len + n) cap)) (w.setRow b (cur.toList.take (base * esz + len * esz) ++ news ++ cur.toList.drop (base * esz + len * esz + news.length)).toArray)) :
    Out P ext β p h w fresh s (.ref id (max rows.length (base + len + n)) base (len + n) ex' c1) (hset h id (.arr esz (rows.take (base + len) ++ new ++ rows.drop (base + len + n)))) := by
  obtain ⟨hrows, h4⟩ := hin.ob id _ hl
  have hb0 : (cx ext β h w).β id = some b := hb
  rw [hb0] at h4
  obtain ⟨cur, e', h5, h6, h7⟩ := h4
  have h5' : w.heap[b]? = some (.cells cur e' (0, 0)) := h5
  have hsh' : w.shape? b = some (e', cur.size) := by simp [World.shape?, h5']
  rw [hsh'] at hsh
  injection hsh with hsh
  injection hsh with q1 q2
  subst q1 q2
  have hnl : news.length = n * esz := by rw [hnew.len, hn]
  have hle : base * esz + (len + n) * esz ≤ cur.size := by
    rw [← Nat.add_mul]
    exact Nat.le_trans (Nat.mul_le_mul_right _ (by omega)) hm
  have hrun := hr cur h5' hle
  let rows' := rows.take (base + len) ++ new ++ rows.drop (base + len + n)
  let nw : Array Value := (cur.toList.take (base * esz + len * esz) ++ news ++ cur.toList.drop (base * esz + len * esz + news.length)).toArray
  have hoq : base * esz + len * esz = (base + len) * esz := by rw [Nat.add_mul]
  have hobd : (base + len) * esz + news.length ≤ cur.size := by rw [hnl, ← Nat.add_mul]; rw [← Nat.add_mul] at hle; rw [Nat.add_assoc]; exact hle
  have hsize : nw.size = cur.size := by simp [nw, hoq]; omega
  have hget : ∀ k, nw[k]? = if (base + len) * esz ≤ k ∧ k < (base + len) * esz + news.length then news[k - (base + len) * esz]? else cur[k]? := fun k => by
    show ((cur.toList.take (base * esz + len * esz) ++ news ++ cur.toList.drop (base * esz + len * esz + news.length)).toArray)[k]? = _
    rw [List.getElem?_toArray, hoq, get_splice cur.toList _ news (by simpa using hobd)]
    simp
  have hrl : rows'.length = max rows.length (base + len + n) := by simp [rows', hn]; omega
  have hrget : ∀ i : Nat, rows'[i]? = if base + len ≤ i ∧ i < base + len + n then new[i - (base + len)]? else rows[i]? := fun i => by
    show (rows.take (base + len) ++ new ++ rows.drop (base + len + n))[i]? = _
    have hto : (rows.take (base + len)).length = base + len := by simp; omega
    rw [List.append_assoc]
    by_cases h1 : i < base + len
    · rw [List.getElem?_append_left (by omega), if_neg (by omega), List.getElem?_take, if_pos h1]
    · rw [List.getElem?_append_right (by omega), hto]
      by_cases h2 : i < base + len + n
      · rw [List.getElem?_append_left (by omega), if_pos ⟨by omega, h2⟩]
      · rw [List.getElem?_append_right (by omega), if_neg (by omega), List.getElem?_drop]
        congr 1
        omega
  have hrow' : ∀ r, r ∈ rows' → r.length = esz := fun r hr => by
    simp only [rows', List.mem_append] at hr
    rcases hr with (hr | hr) | hr
    · exact hrows r (List.mem_of_mem_take hr)
    · exact hrow r hr
    · exact hrows r (List.mem_of_mem_drop hr)
  have hnm' : ∀ r, r ∈ rows' → ∀ y, y ∈ r → Nm p y := fun r hr => by
    simp only [rows', List.mem_append] at hr
    rcases hr with (hr | hr) | hr
    · exact (hin.nm id _ hl).2 r (List.mem_of_mem_take hr)
    · exact hnm r hr
    · exact (hin.nm id _ hl).2 r (List.mem_of_mem_drop hr)
  have key := HIn.upd (w' := w.setRow b nw) (o' := .arr esz rows') hin hl hb (fun k hk => setRow_other w b k nw hk) ⟨setRow_size w b nw, rfl, rfl, rfl⟩ (shape_setRow h5' hsize) ⟨rfl, by rw [hrl]; omega⟩ hnm'
    (fun st => by
      refine ⟨hrow', ?_⟩
      have : (cx ext β (hset h id (.arr esz rows')) (w.setRow b nw)).β id = some b := hb
      rw [this]
      refine ⟨nw, e', setRow_heap w b cur nw e' (0, 0) h5', ?_, fun i r j y hi hj => ?_⟩
      · rw [hsize, hrl]
        rcases Nat.le_total rows.length (base + len + n) with h8 | h8
        · rw [Nat.max_eq_right h8, Nat.add_mul]; rw [hnl] at hobd; exact hobd
        · rw [Nat.max_eq_left h8]; exact h6
      · have hjl : j < esz := by rw [← hrow' r (List.mem_of_getElem? hi)]; exact (List.getElem?_eq_some_iff.1 hj).1
        rw [hrget] at hi
        rw [hget]
        by_cases hc : base + len ≤ i ∧ i < base + len + n
        · rw [if_pos hc] at hi
          have e1 : (base + len) * esz + (i - (base + len)) * esz = i * esz := by rw [← Nat.add_mul]; congr 1; omega
          have e2 : (i - (base + len) + 1) * esz ≤ n * esz := Nat.mul_le_mul_right _ (by omega)
          rw [Nat.add_mul, Nat.one_mul] at e2
          rw [if_pos (by rw [hnl]; omega)]
          have e3 : i * esz + j - (base + len) * esz = (i - (base + len)) * esz + j := by omega
          rw [e3]
          have hlt : (i - (base + len)) * esz + j < news.length := by rw [hnl]; omega
          exact ⟨news[(i - (base + len)) * esz + j], List.getElem?_eq_getElem hlt, hnew.one _ (List.getElem_mem hlt),
            (hnew.rel _ r j y _ hi hj (List.getElem?_eq_getElem hlt)).step (st p) (hnm r (List.mem_of_getElem? hi) y (List.mem_of_getElem? hj))⟩
        · rw [if_neg hc] at hi
          obtain ⟨u, h11, h12, h13⟩ := h7 i r j y hi hj
          rw [if_neg]
          · exact ⟨u, h11, h12, h13.step (st p) ((hin.nm id _ hl).2 r (List.mem_of_getElem? hi) y (List.mem_of_getElem? hj))⟩
          · rw [hnl, ← Nat.add_mul]
            rcases Nat.lt_or_ge i (base + len) with h14 | h14
            · have : (i + 1) * esz ≤ (base + len) * esz := Nat.mul_le_mul_right esz h14
              rw [Nat.add_mul, Nat.one_mul] at this
              omega
            · have : (base + len + n) * esz ≤ i * esz := Nat.mul_le_mul_right esz (by omega)
              omega)
  obtain ⟨k1, k2, k3⟩ := key
  refine ⟨_, _, w.setRow b nw, β, hrun, .inl rfl, k1.mono fun _ => .inl, .ref _ _ _ _ _ _ _ _ hcap hlo hex fun esz1 rows1 hl1 => ?_, .ref _ _ _ _ _ _ (.inl hid), k2, k3 p⟩
  have hl1' : lk (hset h id (.arr esz rows')) id = some (.arr esz1 rows1) := hl1
  rw [lk_hset _ hl, if_pos rfl] at hl1'
  injection hl1' with hl1'
  injection hl1' with q1 q2
  subst q1 q2
  refine ⟨by rw [hrl]; exact Nat.le_refl _, fun _ => ⟨by omega, .inr ⟨b, hb, rfl, e', cur.size, ?_, hm⟩⟩⟩
  exact shape_setRow h5' hsize b _ hsh'

end
end Go.AM
end
