/-
  AM, part 1: the abstract values, the abstract heap, and what it means that a machine's world and slots are as an abstract state says.
  No program stands here: the texts are the same for each seat.
-/
import Derived.WalkKit
namespace Go.AM
open Go

/-- An abstract value. 'sl': a slice that nobody writes into any more, by its rows of cells. 'ref': a slice of an object of the abstract heap. 'ptr': the address of a cell of such an object. 'fp': the address of cells that nobody writes. -/
inductive AVal where
  | junk
  | bool (b : Bool)
  | int (k : IntKind) (n : Int)
  | str (s : ByteArray)
  | nilp
  | sl (rows : List (List AVal)) (lim : Option Nat)
  | ref (id sz base len : Nat) (ex : Bool) (c : Nat)
  | ptr (id sz row col : Nat)
  | fp (cells : List AVal)
  | agg (cells : List AVal)
  | tuple (vs : List AVal)
  | func (fn : Fn) (first captured : List AVal)
  | nilFunc
  | iface (t : TypeId) (v : AVal)
  | nilIface
  | nilmap
  | mapv (id : Nat)
  deriving Inhabited

/-- A map: its entries (key, value, when it was born), and its clock. -/
structure MapA where
  es : List (AVal × AVal × Nat)
  clock : Nat

/-- An object of the abstract heap. -/
inductive Ob where
  | arr (esz : Nat) (rows : List (List AVal))
  | mp (m : MapA)

abbrev Heap := List (Nat × Ob)

def lk : Heap → Nat → Option Ob
  | [], _ => none
  | (i, o) :: h, j => if i = j then some o else lk h j

/-- Only objects are named whose numbers are among some. -/
inductive Nm (p : Nat → Prop) : AVal → Prop
  | junk : Nm p .junk
  | bool (b : Bool) : Nm p (.bool b)
  | int (k : IntKind) (x : Int) : Nm p (.int k x)
  | str (s : ByteArray) : Nm p (.str s)
  | nilp : Nm p .nilp
  | sl (rows : List (List AVal)) (lim : Option Nat) (h : ∀ r, r ∈ rows → ∀ x, x ∈ r → Nm p x) : Nm p (.sl rows lim)
  | ref (id sz base len : Nat) (ex : Bool) (c : Nat) (h : p id) : Nm p (.ref id sz base len ex c)
  | ptr (id sz row col : Nat) (h : p id) : Nm p (.ptr id sz row col)
  | fp (cells : List AVal) (h : ∀ x, x ∈ cells → Nm p x) : Nm p (.fp cells)
  | agg (cells : List AVal) (h : ∀ x, x ∈ cells → Nm p x) : Nm p (.agg cells)
  | tuple (vs : List AVal) (h : ∀ x, x ∈ vs → Nm p x) : Nm p (.tuple vs)
  | func (fn : Fn) (first captured : List AVal) (h : ∀ x, x ∈ first → Nm p x) (h' : ∀ x, x ∈ captured → Nm p x) : Nm p (.func fn first captured)
  | nilFunc : Nm p .nilFunc
  | iface (t : TypeId) (v : AVal) (h : Nm p v) : Nm p (.iface t v)
  | nilIface : Nm p .nilIface
  | nilmap : Nm p .nilmap
  | mapv (id : Nat) (h : p id) : Nm p (.mapv id)

/-- No object is named: nobody will ever write what the value reads. -/
abbrev Fz : AVal → Prop := Nm fun _ => False

theorem Nm.mono {p q : Nat → Prop} (hn : ∀ i, p i → q i) {x : AVal} (h : Nm p x) : Nm q x := by
  induction h with
  | junk => exact .junk
  | bool b => exact .bool b
  | int k x => exact .int k x
  | str s => exact .str s
  | nilp => exact .nilp
  | sl rows lim _ ih => exact .sl rows lim ih
  | ref id sz base len ex c h => exact .ref _ _ _ _ _ _ (hn _ h)
  | ptr id sz row col h => exact .ptr _ _ _ _ (hn _ h)
  | fp cells _ ih => exact .fp cells ih
  | agg cells _ ih => exact .agg cells ih
  | tuple cells _ ih => exact .tuple cells ih
  | func fn a b _ _ ih ih' => exact .func fn a b ih ih'
  | nilFunc => exact .nilFunc
  | iface t v _ ih => exact .iface t v ih
  | nilIface => exact .nilIface
  | nilmap => exact .nilmap
  | mapv id h => exact .mapv _ (hn _ h)

theorem Fz.nm {x : AVal} (h : Fz x) (p : Nat → Prop) : Nm p x := Nm.mono (fun _ h => h.elim) h

/-- What a relation of values looks at: the world, the blocks that may be written, how many rows each object has, and its block. -/
structure Cx where
  w : World
  own : Nat → Prop
  h : Heap
  β : Nat → Option Nat

def Cx.RefAt (c : Cx) (id esz base cap : Nat) (a : Option Addr) : Prop :=
  cap = 0 ∨ ∃ b, c.β id = some b ∧ a = some ⟨b, base * esz, none⟩ ∧ ∃ e n, c.w.shape? b = some (e, n) ∧ (base + cap) * esz ≤ n

inductive VRel (c : Cx) : AVal → Value → Prop
  | junk (v : Value) : VRel c .junk v
  | bool (b : Bool) : VRel c (.bool b) (.bool b)
  | int (k : IntKind) (n : Int) : VRel c (.int k n) (.int k n)
  | str (s : ByteArray) : VRel c (.str s) (.string s)
  | nilp : VRel c .nilp (.pointer none)
  | sl (rows : List (List AVal)) (lim : Option Nat) (a : Option Addr) (cap esz blk off : Nat) (vals : Nat → Nat → Value)
      (hcap : rows.length ≤ cap) (hlim : ∀ l, lim = some l → cap = l) (hrow : ∀ r, r ∈ rows → r.length = esz)
      (ha : rows ≠ [] → a = some ⟨blk, off, none⟩)
      (hcell : ∀ (i : Nat) r (j : Nat) x, rows[i]? = some r → r[j]? = some x → ¬ c.own blk ∧ c.w.cell? ⟨blk, off + (i * esz + j), none⟩ = some (vals i j) ∧ (vals i j).oneCell' = true)
      (hrel : ∀ (i : Nat) r (j : Nat) x, rows[i]? = some r → r[j]? = some x → VRel c x (vals i j)) : VRel c (.sl rows lim) (.slice a rows.length cap)
  | ref (id sz base len : Nat) (ex : Bool) (c0 : Nat) (a : Option Addr) (cap : Nat)
      (hcap : len ≤ cap) (hlo : c0 ≤ cap) (hex : ex = true → cap = c0)
      (hok : ∀ esz rows, lk c.h id = some (.arr esz rows) → sz ≤ rows.length ∧ (sz = rows.length → base + len ≤ sz ∧ c.RefAt id esz base cap a)) :
      VRel c (.ref id sz base len ex c0) (.slice a len cap)
  | ptr (id sz row col : Nat) (ad : Addr)
      (hok : ∀ esz rows, lk c.h id = some (.arr esz rows) → sz ≤ rows.length ∧ (sz = rows.length → ∃ b, c.β id = some b ∧ ad = ⟨b, row * esz + col, none⟩)) :
      VRel c (.ptr id sz row col) (.pointer (some ad))
  | fp (cells : List AVal) (blk off : Nat) (vals : Nat → Value)
      (hcell : ∀ (j : Nat) x, cells[j]? = some x → ¬ c.own blk ∧ c.w.cell? ⟨blk, off + j, none⟩ = some (vals j) ∧ (vals j).oneCell' = true)
      (hrel : ∀ (j : Nat) x, cells[j]? = some x → VRel c x (vals j)) : VRel c (.fp cells) (.pointer (some ⟨blk, off, none⟩))
  | agg (cells : List AVal) (vs : Array Value) (hlen : vs.size = cells.length) (hone : ∀ (i : Nat) v, vs[i]? = some v → v.oneCell' = true) (hrel : ∀ (i : Nat) x v, cells[i]? = some x → vs[i]? = some v → VRel c x v) : VRel c (.agg cells) (.agg vs)
  | tuple (cells : List AVal) (vs : Array Value) (hlen : vs.size = cells.length) (hrel : ∀ (i : Nat) x v, cells[i]? = some x → vs[i]? = some v → VRel c x v) : VRel c (.tuple cells) (.tuple vs)
  | func (fn : Fn) (first captured : List AVal) (vs us : Array Value) (hlen : vs.size = first.length) (hlen' : us.size = captured.length)
      (hrel : ∀ (i : Nat) x v, first[i]? = some x → vs[i]? = some v → VRel c x v) (hrel' : ∀ (i : Nat) x v, captured[i]? = some x → us[i]? = some v → VRel c x v) :
      VRel c (.func fn first captured) (.func fn vs us)
  | nilFunc : VRel c .nilFunc .nilFunc
  | iface (t : TypeId) (x : AVal) (v : Value) (h : VRel c x v) : VRel c (.iface t x) (.iface t v)
  | nilIface : VRel c .nilIface .nilIface
  | nilmap : VRel c .nilmap (.map none)
  | mapv (id r : Nat) (hok : ∀ es, lk c.h id = some (.mp es) → c.β id = some r) : VRel c (.mapv id) (.map (some r))

/-- From one context to another one: what is not written stays, and of some objects those that are still there have their block. -/
structure Step (p : Nat → Prop) (c d : Cx) : Prop where
  cell : ∀ b o v, ¬ c.own b → c.w.cell? ⟨b, o, none⟩ = some v → ¬ d.own b ∧ d.w.cell? ⟨b, o, none⟩ = some v
  shape : ∀ b x, c.w.shape? b = some x → d.w.shape? b = some x
  arr : ∀ id, p id → ∀ esz rows, lk d.h id = some (.arr esz rows) → ∃ rows', lk c.h id = some (.arr esz rows') ∧ rows'.length ≤ rows.length ∧ (rows'.length = rows.length → d.β id = c.β id)
  mp : ∀ id, p id → ∀ es, lk d.h id = some (.mp es) → ∃ es', lk c.h id = some (.mp es') ∧ d.β id = c.β id

theorem Cx.RefAt.step {p : Nat → Prop} {c d : Cx} (s : Step p c d) {id esz base cap : Nat} {a : Option Addr} (hβ : d.β id = c.β id) (h : c.RefAt id esz base cap a) : d.RefAt id esz base cap a := by
  rcases h with h | ⟨b, hb, ha, e, m, h2, h3⟩
  · exact .inl h
  · exact .inr ⟨b, hβ.trans hb, ha, e, m, s.shape _ _ h2, h3⟩

theorem VRel.step {p : Nat → Prop} {c d : Cx} (s : Step p c d) {x : AVal} {v : Value} (h : VRel c x v) : Nm p x → VRel d x v := by
  induction h with
  | junk v => exact fun _ => .junk v
  | bool b => exact fun _ => .bool b
  | int k n => exact fun _ => .int k n
  | str s => exact fun _ => .str s
  | nilp => exact fun _ => .nilp
  | sl rows lim a cap esz blk off vals hcap hlim hrow ha hcell hrel ih =>
    intro hb
    cases hb with | sl _ _ hb =>
    exact .sl rows lim a cap esz blk off vals hcap hlim hrow ha
      (fun i r j x h1 h2 => let ⟨e1, e2⟩ := s.cell _ _ _ (hcell i r j x h1 h2).1 (hcell i r j x h1 h2).2.1; ⟨e1, e2, (hcell i r j x h1 h2).2.2⟩)
      (fun i r j x h1 h2 => ih i r j x h1 h2 (hb r (List.mem_of_getElem? h1) x (List.mem_of_getElem? h2)))
  | ref id sz base len ex c0 a cap hcap hlo hex hok =>
    intro hb
    cases hb with | ref _ _ _ _ _ _ hid =>
    refine .ref id sz base len ex c0 a cap hcap hlo hex fun esz rows hr => ?_
    obtain ⟨rows', hr', hle, heq⟩ := s.arr id hid esz rows hr
    obtain ⟨h1, h2⟩ := hok esz rows' hr'
    refine ⟨Nat.le_trans h1 hle, fun he => ?_⟩
    have e1 : sz = rows'.length := Nat.le_antisymm h1 (he ▸ hle)
    exact ⟨(h2 e1).1, (h2 e1).2.step s (heq (e1 ▸ he))⟩
  | ptr id sz row col ad hok =>
    intro hb
    cases hb with | ptr _ _ _ _ hid =>
    refine .ptr id sz row col ad fun esz rows hr => ?_
    obtain ⟨rows', hr', hle, heq⟩ := s.arr id hid esz rows hr
    obtain ⟨h1, h2⟩ := hok esz rows' hr'
    refine ⟨Nat.le_trans h1 hle, fun he => ?_⟩
    have e1 : sz = rows'.length := Nat.le_antisymm h1 (he ▸ hle)
    obtain ⟨b, hb, had⟩ := h2 e1
    exact ⟨b, (heq (e1 ▸ he)).trans hb, had⟩
  | fp cells blk off vals hcell hrel ih =>
    intro hb
    cases hb with | fp _ hb =>
    exact .fp cells blk off vals (fun j x h1 => let ⟨e1, e2⟩ := s.cell _ _ _ (hcell j x h1).1 (hcell j x h1).2.1; ⟨e1, e2, (hcell j x h1).2.2⟩) (fun j x h1 => ih j x h1 (hb x (List.mem_of_getElem? h1)))
  | agg cells vs hlen hone hrel ih =>
    intro hb
    cases hb with | agg _ hb =>
    exact .agg cells vs hlen hone fun i x v h1 h2 => ih i x v h1 h2 (hb x (List.mem_of_getElem? h1))
  | tuple cells vs hlen hrel ih =>
    intro hb
    cases hb with | tuple _ hb =>
    exact .tuple cells vs hlen fun i x v h1 h2 => ih i x v h1 h2 (hb x (List.mem_of_getElem? h1))
  | func fn first captured vs us hlen hlen' hrel hrel' ih ih' =>
    intro hb
    cases hb with | func _ _ _ hb hb' =>
    exact .func fn first captured vs us hlen hlen' (fun i x v h1 h2 => ih i x v h1 h2 (hb x (List.mem_of_getElem? h1)))
      (fun i x v h1 h2 => ih' i x v h1 h2 (hb' x (List.mem_of_getElem? h1)))
  | nilFunc => exact fun _ => .nilFunc
  | iface t x v h ih =>
    intro hb
    cases hb with | iface _ _ hb =>
    exact .iface t x v (ih hb)
  | nilIface => exact fun _ => .nilIface
  | nilmap => exact fun _ => .nilmap
  | mapv id r hok =>
    intro hb
    cases hb with | mapv _ hid =>
    refine .mapv id r fun es he => ?_
    obtain ⟨es', he', hβ⟩ := s.mp id hid es he
    exact hβ.trans (hok es' he')

/-- An object lies in the world. -/
def ObIn (c : Cx) (id : Nat) : Ob → Prop
  | .arr esz rows => (∀ r, r ∈ rows → r.length = esz) ∧
      match c.β id with
      | none => rows = []
      | some b => ∃ cs e, c.w.heap[b]? = some (.cells cs e (0, 0)) ∧ rows.length * esz ≤ cs.size ∧
          ∀ (i : Nat) (r : List AVal) (j : Nat) (x : AVal), rows[i]? = some r → r[j]? = some x → ∃ v, cs[i * esz + j]? = some v ∧ v.oneCell' = true ∧ VRel c x v
  | .mp a => ∃ b ms, c.β id = some b ∧ c.w.heap[b]? = some (.map ms a.clock) ∧ ms.size = a.es.length ∧
      ∀ (i : Nat) (k v : AVal) (n : Nat) (m : MapEntry), a.es[i]? = some (k, v, n) → ms[i]? = some m → VRel c k m.key ∧ VRel c v m.val ∧ m.born = n

def Ob.nm (p : Nat → Prop) : Ob → Prop
  | .arr _ rows => ∀ r, r ∈ rows → ∀ x, x ∈ r → Nm p x
  | .mp a => ∀ e, e ∈ a.es → Nm p e.1 ∧ Nm p e.2.1

/-- The blocks of an abstract heap. -/
def owns (β : Nat → Option Nat) (h : Heap) (b : Nat) : Prop := ∃ id o, lk h id = some o ∧ β id = some b

/-- The context of a world, of blocks that others may write, of an abstract heap. -/
def cx (ext : Nat → Prop) (β : Nat → Option Nat) (h : Heap) (w : World) : Cx := { w, own := fun b => ext b ∨ owns β h b, h, β }

structure HIn (ext : Nat → Prop) (β : Nat → Option Nat) (p : Nat → Prop) (h : Heap) (w : World) : Prop where
  ob : ∀ id o, lk h id = some o → ObIn (cx ext β h w) id o
  nm : ∀ id o, lk h id = some o → p id ∧ o.nm p
  inj : ∀ id id' o o' b, lk h id = some o → lk h id' = some o' → β id = some b → β id' = some b → id = id'
  ext : ∀ b, ext b → b < w.heap.size ∧ ¬ owns β h b

/-- What goes on in a world: blocks that are not one's own stay; one's own are those that were, and new ones; no row of cells changes its length. -/
structure Evo (own : Nat → Prop) (w : World) (own' : Nat → Prop) (w' : World) : Prop where
  size : w.heap.size ≤ w'.heap.size
  keep : ∀ b, b < w.heap.size → ¬ own b → w'.heap[b]? = w.heap[b]?
  fresh : ∀ b, b < w.heap.size → own' b → own b
  shape : ∀ b x, w.shape? b = some x → w'.shape? b = some x
  rest : w'.os = w.os ∧ w'.tape = w.tape ∧ w'.output = w.output

theorem Evo.refl (own : Nat → Prop) (w : World) : Evo own w own w := ⟨Nat.le_refl _, fun _ _ _ => rfl, fun _ _ h => h, fun _ _ h => h, rfl, rfl, rfl⟩

theorem Evo.trans {o1 o2 o3 : Nat → Prop} {w1 w2 w3 : World} (h : Evo o1 w1 o2 w2) (h' : Evo o2 w2 o3 w3) : Evo o1 w1 o3 w3 where
  size := Nat.le_trans h.size h'.size
  keep b hb hn := by
    rw [h'.keep b (Nat.lt_of_lt_of_le hb h.size) (fun h2 => hn (h.fresh b hb h2)), h.keep b hb hn]
  fresh b hb h3 := h.fresh b hb (h'.fresh b (Nat.lt_of_lt_of_le hb h.size) h3)
  shape b x hx := h'.shape b x (h.shape b x hx)
  rest := ⟨h'.rest.1.trans h.rest.1, h'.rest.2.1.trans h.rest.2.1, h'.rest.2.2.trans h.rest.2.2⟩

theorem cell_lt {w : World} {b o : Nat} {v : Value} (h : w.cell? ⟨b, o, none⟩ = some v) : b < w.heap.size := by
  unfold World.cell? at h
  rcases Nat.lt_or_ge b w.heap.size with hb | hb
  · exact hb
  · simp [Array.getElem?_eq_none hb] at h

theorem cell_of_heap {w w' : World} {b : Nat} (h : w'.heap[b]? = w.heap[b]?) (o : Nat) : w'.cell? ⟨b, o, none⟩ = w.cell? ⟨b, o, none⟩ := by
  unfold World.cell?
  rw [h]

end Go.AM
