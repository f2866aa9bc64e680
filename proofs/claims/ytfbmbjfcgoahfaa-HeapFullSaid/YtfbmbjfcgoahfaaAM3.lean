/-
  AM, part 3: types as a table; how the abstract heap and the world go together under an allocation and under a store; reading and writing.
-/
import Derived.Test.YtfbmbjfcgoahfaaAM2
namespace Go.AM
open Go

/-- A field: its place, its size in cells, is it an aggregate, its type, is it blank. -/
structure Fld where
  off : Nat
  size : Nat
  agg : Bool
  type : TypeId
  blank : Bool

/-- What a type is. -/
inductive TK where
  | bool
  | int (k : IntKind)
  | str
  | ptr (e : TypeId)
  | slice (e : TypeId)
  | struct (fs : List Fld)
  | array (n : Nat) (e : TypeId)
  | map (k e : TypeId)
  | iface (ms : Nat)
  | other

structure TI where
  kind : TK
  size : Nat
  bytes : Nat
  zero : AVal

def aggD : TypeDesc → Bool
  | .struct _ => true
  | .array _ _ => true
  | _ => false

def TK.agg : TK → Bool
  | .struct _ => true
  | .array _ _ => true
  | _ => false

def kindOf (P : Program) : TypeDesc → Option TK
  | .bool => some .bool
  | .int k => some (.int k)
  | .string => some .str
  | .pointer e => some (.ptr e)
  | .slice e => some (.slice e)
  | .struct fs => (fs.toList.mapM fun f => (P.info? f.type).bind fun i => (P.underlying f.type).map fun d => { off := f.offset, size := i.size, agg := aggD d, type := f.type, blank := f.name == "_" : Fld }).map .struct
  | .array n e => some (.array n e)
  | .map k e => some (.map k e)
  | .interface ms => some (.iface ms.size)
  | _ => some .other

/-- The table of a program's types. -/
def tab (P : Program) (t : TypeId) : Option TI :=
  match P.info? t, P.underlying t with
  | some i, some d =>
    match i.zero, kindOf P d with
    | some z, some k => if z.cells.size = i.size then some { kind := k, size := i.size, bytes := i.bytes, zero := ofV z } else none
    | _, _ => none
  | _, _ => none

theorem kindOf_agg {P : Program} {d : TypeDesc} {k : TK} (h : kindOf P d = some k) : k.agg = aggD d := by
  cases d <;> simp [kindOf] at h <;> try (subst h; rfl)
  obtain ⟨fs, _, rfl⟩ := h
  rfl

theorem tab_spec {P : Program} {t : TypeId} {ti : TI} (h : tab P t = some ti) :
    ∃ i d z, P.info? t = some i ∧ P.underlying t = some d ∧ i.zero = some z ∧ kindOf P d = some ti.kind ∧ z.cells.size = ti.size ∧ i.size = ti.size ∧ i.bytes = ti.bytes ∧ ofV z = ti.zero := by
  unfold tab at h
  split at h
  case h_2 => cases h
  rename_i i d h1 h2
  split at h
  case h_2 => cases h
  rename_i z k h3 h4
  split at h
  case isFalse => cases h
  rename_i h5
  injection h with h
  subst h
  exact ⟨i, d, z, h1, h2, h3, h4, h5, rfl, rfl, rfl⟩

section runs
variable {P : Program} (w : World) {t : TypeId} {ti : TI} (h : tab P t = some ti)
include h

theorem run_und : ∃ d, P.underlying t = some d ∧ (underlying t).run P w = .ok d w ∧ kindOf P d = some ti.kind :=
  let ⟨_, d, _, _, h2, _, h4, _⟩ := tab_spec h; ⟨d, h2, run_underlying h2 w, h4⟩

theorem run_size : (sizeOf t).run P w = .ok ti.size w := by
  obtain ⟨i, d, z, h1, h2, h3, h4, h5, h6, h7, h8⟩ := tab_spec h
  simp [sizeOf, typeInfo, h1, h6]

theorem run_bytes : ∃ i, (typeInfo t).run P w = .ok i w ∧ i.bytes = ti.bytes := by
  obtain ⟨i, d, z, h1, h2, h3, h4, h5, h6, h7, h8⟩ := tab_spec h
  exact ⟨i, by simp [typeInfo, h1], h7⟩

theorem run_zero : ∃ z, (zeroValue t).run P w = .ok z w ∧ ofV z = ti.zero ∧ z.cells.size = ti.size := by
  obtain ⟨i, d, z, h1, h2, h3, h4, h5, h6, h7, h8⟩ := tab_spec h
  exact ⟨z, by simp [zeroValue, typeInfo, h1, h3], h8, h5⟩

theorem run_isAgg : (isAgg t).run P w = .ok ti.kind.agg w := by
  obtain ⟨d, h1, h2, h3⟩ := run_und w h
  unfold isAgg
  rw [Sem.run_bind, h2, kindOf_agg h3]
  cases d <;> simp [aggD]

end runs

def hset : Heap → Nat → Ob → Heap
  | [], _, _ => []
  | (i, o) :: t, j, o' => if i = j then (i, o') :: t else (i, o) :: hset t j o'

theorem lk_hset {h : Heap} {id : Nat} {o : Ob} (o' : Ob) (hid : lk h id = some o) (j : Nat) : lk (hset h id o') j = if j = id then some o' else lk h j := by
  induction h with
  | nil => simp [lk] at hid
  | cons a t ih =>
    obtain ⟨i, x⟩ := a
    simp only [hset]
    by_cases h1 : i = id
    · subst h1
      simp only [if_true, lk]
      by_cases h2 : j = i
      · subst h2; simp
      · have : ¬ i = j := fun e => h2 e.symm
        simp [h2, this]
    · simp only [lk, if_neg h1] at hid
      simp only [if_neg h1, lk]
      rw [ih hid]
      by_cases h2 : j = id
      · subst h2; simp [h1]
      · simp [h2]

/-- How many rows, how many cells each. -/
def Ob.same : Ob → Ob → Prop
  | .arr e r, .arr e' r' => e = e' ∧ r.length ≤ r'.length
  | .mp _, .mp _ => True
  | _, _ => False

section heap
variable {ext : Nat → Prop} {β : Nat → Option Nat} {p : Nat → Prop} {h : Heap} {w w' : World}

theorem owns_hset {id : Nat} {o o' : Ob} (hid : lk h id = some o) (b : Nat) : owns β (hset h id o') b ↔ owns β h b := by
  constructor
  · rintro ⟨j, x, h1, h2⟩
    rw [lk_hset o' hid] at h1
    by_cases hj : j = id
    · subst hj; exact ⟨j, o, hid, h2⟩
    · rw [if_neg hj] at h1; exact ⟨j, x, h1, h2⟩
  · rintro ⟨j, x, h1, h2⟩
    by_cases hj : j = id
    · subst hj; exact ⟨j, o', by rw [lk_hset o' hid, if_pos rfl], h2⟩
    · exact ⟨j, x, by rw [lk_hset o' hid, if_neg hj]; exact h1, h2⟩

/-- An object's block is written over. -/
theorem HIn.upd (hin : HIn ext β p h w) {id b : Nat} {o o' : Ob} (hid : lk h id = some o) (hb : β id = some b) (hother : ∀ k, k ≠ b → w'.heap[k]? = w.heap[k]?)
    (hsize : w'.heap.size = w.heap.size ∧ w'.os = w.os ∧ w'.tape = w.tape ∧ w'.output = w.output) (hshape : ∀ k x, w.shape? k = some x → w'.shape? k = some x) (hsame : o.same o') (hnm : o'.nm p)
    (hob : (∀ q, Step q (cx ext β h w) (cx ext β (hset h id o') w')) → ObIn (cx ext β (hset h id o') w') id o') :
    HIn ext β p (hset h id o') w' ∧ Evo (owns β h) w (owns β (hset h id o')) w' ∧ ∀ q, Step q (cx ext β h w) (cx ext β (hset h id o') w') := by
  have hown : owns β h b := ⟨id, o, hid, hb⟩
  have hstep : ∀ q, Step q (cx ext β h w) (cx ext β (hset h id o') w') := fun q => by
    refine ⟨fun k off v hk hc => ?_, hshape, fun j _ esz rows hj => ?_, fun j _ es hj => ?_⟩
    · have hkb : k ≠ b := fun e => hk (.inr (e ▸ hown))
      refine ⟨fun hk' => hk (hk'.imp (fun e => e) fun h1 => (owns_hset hid k).1 h1), ?_⟩
      exact (cell_of_heap (hother k hkb) off).trans hc
    · have hj' : lk (hset h id o') j = some (.arr esz rows) := hj
      rw [lk_hset o' hid] at hj'
      by_cases e : j = id
      · subst e
        rw [if_pos rfl] at hj'
        injection hj' with hj'
        subst hj'
        cases o with
        | mp es => exact hsame.elim
        | arr e1 r1 =>
          obtain ⟨rfl, hl⟩ := hsame
          exact ⟨r1, hid, by omega, fun _ => rfl⟩
      · rw [if_neg e] at hj'
        exact ⟨rows, hj', Nat.le_refl _, fun _ => rfl⟩
    · have hj' : lk (hset h id o') j = some (.mp es) := hj
      rw [lk_hset o' hid] at hj'
      by_cases e : j = id
      · subst e
        rw [if_pos rfl] at hj'
        injection hj' with hj'
        subst hj'
        cases o with
        | arr _ _ => exact hsame.elim
        | mp es' => exact ⟨es', hid, rfl⟩
      · rw [if_neg e] at hj'
        exact ⟨es, hj', rfl⟩
  refine ⟨⟨fun j x hj => ?_, fun j x hj => ?_, fun j j' x x' c hj hj' hc hc' => ?_, fun c hc => ?_⟩, ?_, hstep⟩
  · rw [lk_hset o' hid] at hj
    by_cases e : j = id
    · subst e
      rw [if_pos rfl] at hj
      injection hj with hj
      exact hj ▸ hob hstep
    · rw [if_neg e] at hj
      refine ObIn.step (hstep p) rfl (fun c hc => hother c fun ecb => e ?_) (hin.nm j x hj).2 (hin.ob j x hj)
      exact hin.inj j id x o b hj hid (ecb ▸ hc) hb
  · rw [lk_hset o' hid] at hj
    by_cases e : j = id
    · subst e
      rw [if_pos rfl] at hj
      injection hj with hj
      exact ⟨(hin.nm j o hid).1, hj ▸ hnm⟩
    · rw [if_neg e] at hj
      exact hin.nm j x hj
  · have g : ∀ k y, lk (hset h id o') k = some y → ∃ y', lk h k = some y' := fun k y hk => by
      rw [lk_hset o' hid] at hk
      by_cases e : k = id
      · exact ⟨o, e ▸ hid⟩
      · rw [if_neg e] at hk; exact ⟨y, hk⟩
    obtain ⟨y, hy⟩ := g j x hj
    obtain ⟨y', hy'⟩ := g j' x' hj'
    exact hin.inj j j' y y' c hy hy' hc hc'
  · rw [hsize.1]
    exact ⟨(hin.ext c hc).1, fun h1 => (hin.ext c hc).2 ((owns_hset hid c).1 h1)⟩
  · exact ⟨Nat.le_of_eq hsize.1.symm, fun k _ hk => hother k fun e => hk (e ▸ hown), fun k _ hk => (owns_hset hid k).1 hk, hshape, hsize.2⟩

/-- A new block is laid, for a new object. -/
theorem HIn.new (hin : HIn ext β p h w) {id : Nat} {q : Nat → Prop} {ob : Ob} {o : Obj} (hpid : ¬ p id) (hpq : ∀ j, p j → q j) (hq : q id) (hheap : w'.heap = w.heap.push o ∧ w'.os = w.os ∧ w'.tape = w.tape ∧ w'.output = w.output)
    (hnm : ob.nm q)
    (hob : Step p (cx ext β h w) (cx ext (fun j => if j = id then some w.heap.size else β j) ((id, ob) :: h) w') →
      ObIn (cx ext (fun j => if j = id then some w.heap.size else β j) ((id, ob) :: h) w') id ob) :
    HIn ext (fun j => if j = id then some w.heap.size else β j) q ((id, ob) :: h) w' ∧
    Evo (owns β h) w (owns (fun j => if j = id then some w.heap.size else β j) ((id, ob) :: h)) w' ∧
    Step p (cx ext β h w) (cx ext (fun j => if j = id then some w.heap.size else β j) ((id, ob) :: h) w') := by
  have hold : ∀ k, k < w.heap.size → w'.heap[k]? = w.heap[k]? := fun k hk => by
    rw [hheap.1, Array.getElem?_push, if_neg (Nat.ne_of_lt hk)]
  have hlk : ∀ j, lk ((id, ob) :: h) j = if j = id then some ob else lk h j := fun j => by
    simp only [lk]
    by_cases e : id = j
    · simp [e]
    · have : ¬ j = id := fun e' => e e'.symm
      simp [e, this]
  have hlt : ∀ j x c, lk h j = some x → β j = some c → c < w.heap.size := fun j x c hj hc => by
    have := hin.ob j x hj
    cases x with
    | arr esz rows =>
      obtain ⟨_, h2⟩ := this
      have hc' : (cx ext β h w).β j = some c := hc
      rw [hc'] at h2
      obtain ⟨cs, e, h3, _⟩ := h2
      exact (Array.getElem?_eq_some_iff.1 h3).1
    | mp es =>
      obtain ⟨b, ms, h1, h2, _⟩ := this
      have : b = c := by have := h1.symm.trans hc; simpa using this
      exact this ▸ (Array.getElem?_eq_some_iff.1 h2).1
  have hown : ∀ c, owns (fun j => if j = id then some w.heap.size else β j) ((id, ob) :: h) c → c = w.heap.size ∨ owns β h c := by
    rintro c ⟨j, x, h1, h2⟩
    rw [hlk] at h1
    by_cases e : j = id
    · simp only [if_pos e] at h2
      injection h2 with h2
      exact .inl h2.symm
    · simp only [if_neg e] at h1 h2
      exact .inr ⟨j, x, h1, h2⟩
  have hshape : ∀ k x, w.shape? k = some x → w'.shape? k = some x := fun k x hx => by
    have hk : k < w.heap.size := by
      rcases Nat.lt_or_ge k w.heap.size with h1 | h1
      · exact h1
      · simp [World.shape?, Array.getElem?_eq_none h1] at hx
    unfold World.shape? at *
    rw [hold k hk]; exact hx
  have hstep : Step p (cx ext β h w) (cx ext (fun j => if j = id then some w.heap.size else β j) ((id, ob) :: h) w') := by
    refine ⟨fun k off v hk hc => ?_, hshape, fun j hj esz rows hr => ?_, fun j hj es hr => ?_⟩
    · have hkl : k < w.heap.size := cell_lt hc
      refine ⟨fun hk' => hk (hk'.imp (fun e => e) fun h1 => ?_), (cell_of_heap (hold k hkl) off).trans hc⟩
      rcases hown k h1 with e | e
      · omega
      · exact e
    · have e : j ≠ id := fun e => hpid (e ▸ hj)
      have hr' : lk ((id, ob) :: h) j = some (.arr esz rows) := hr
      rw [hlk, if_neg e] at hr'
      exact ⟨rows, hr', Nat.le_refl _, fun _ => by simp [cx, e]⟩
    · have e : j ≠ id := fun e => hpid (e ▸ hj)
      have hr' : lk ((id, ob) :: h) j = some (.mp es) := hr
      rw [hlk, if_neg e] at hr'
      exact ⟨es, hr', by simp [cx, e]⟩
  refine ⟨⟨fun j x hj => ?_, fun j x hj => ?_, fun j j' x x' c hj hj' hc hc' => ?_, fun c hc => ?_⟩, ?_, hstep⟩
  · rw [hlk] at hj
    by_cases e : j = id
    · rw [if_pos e] at hj
      injection hj with hj
      rw [e]
      exact hj ▸ hob hstep
    · rw [if_neg e] at hj
      refine ObIn.step hstep (by simp [cx, e]) (fun c hc => hold c (hlt j x c hj hc)) (hin.nm j x hj).2 (hin.ob j x hj)
  · rw [hlk] at hj
    by_cases e : j = id
    · rw [if_pos e] at hj
      injection hj with hj
      exact ⟨e ▸ hq, hj ▸ hnm⟩
    · rw [if_neg e] at hj
      obtain ⟨h1, h2⟩ := hin.nm j x hj
      refine ⟨hpq j h1, ?_⟩
      cases x with
      | arr esz rows => exact fun r hr y hy => (h2 r hr y hy).mono hpq
      | mp es => exact fun e he => ⟨(h2 e he).1.mono hpq, (h2 e he).2.mono hpq⟩
  · rw [hlk] at hj hj'
    by_cases e : j = id <;> by_cases e' : j' = id
    · rw [e, e']
    · simp only [if_pos e] at hc
      simp only [if_neg e'] at hj' hc'
      injection hc with hc
      have := hlt j' x' c hj' hc'
      omega
    · simp only [if_pos e'] at hc'
      simp only [if_neg e] at hj hc
      injection hc' with hc'
      have := hlt j x c hj hc
      omega
    · simp only [if_neg e] at hj hc
      simp only [if_neg e'] at hj' hc'
      exact hin.inj j j' x x' c hj hj' hc hc'
  · have hs : w'.heap.size = w.heap.size + 1 := by rw [hheap.1]; simp
    have h1 := hin.ext c hc
    refine ⟨by omega, fun h2 => ?_⟩
    rcases hown c h2 with e | e
    · omega
    · exact h1.2 e
  · have hs : w'.heap.size = w.heap.size + 1 := by rw [hheap.1]; simp
    refine ⟨by omega, fun k hk _ => hold k hk, fun k hk h1 => ?_, hshape, hheap.2⟩
    rcases hown k h1 with e | e
    · omega
    · exact e

end heap

/-! ### Cells that lie somewhere -/

/-- Cells lie in a block from a place on. -/
def CellsAt (c : Cx) (blk off : Nat) (cells : List AVal) : Prop :=
  ∀ (j : Nat) x, cells[j]? = some x → ∃ v, c.w.cell? ⟨blk, off + j, none⟩ = some v ∧ v.oneCell' = true ∧ VRel c x v

theorem CellsAt.drop {c : Cx} {blk off : Nat} {cells : List AVal} (h : CellsAt c blk off cells) (k : Nat) : CellsAt c blk (off + k) (cells.drop k) := fun j x hx => by
  rw [List.getElem?_drop] at hx
  obtain ⟨v, hv, h1, h2⟩ := h (k + j) x hx
  exact ⟨v, by rw [Nat.add_assoc]; exact hv, h1, h2⟩

/-- A value of a type out of cells. -/
def takeAs (ti : TI) (cells : List AVal) : Option AVal :=
  if ti.kind.agg then (if ti.size ≤ cells.length then some (.agg (cells.take ti.size)) else none) else cells[0]?

theorem addr_add (b o n : Nat) : (⟨b, o, none⟩ : Addr).add n = ⟨b, o + n, none⟩ := by
  unfold Addr.add
  by_cases h : n = 0
  · simp [h]
  · simp [h]

theorem run_loadVar {P : Program} {c : Cx} {t : TypeId} {ti : TI} (ht : tab P t = some ti) {blk off : Nat} {cells : List AVal} (hc : CellsAt c blk off cells)
    {x : AVal} (hx : takeAs ti cells = some x) : ∃ v, (loadVar t ⟨blk, off, none⟩).run P c.w = .ok v c.w ∧ VRel c x v := by
  unfold takeAs at hx
  by_cases hd : ti.kind.agg = true
  · rw [if_pos hd] at hx
    by_cases hl : ti.size ≤ cells.length
    · rw [if_pos hl] at hx
      injection hx with hx
      have hcell : ∀ j, j < ti.size → ∃ x v, cells[j]? = some x ∧ c.w.cell? ⟨blk, off + j, none⟩ = some v ∧ v.oneCell' = true ∧ VRel c x v := fun j hj => by
        obtain ⟨v, h1, h2, h3⟩ := hc j cells[j] (List.getElem?_eq_getElem (by omega))
        exact ⟨cells[j], v, List.getElem?_eq_getElem (by omega), h1, h2, h3⟩
      let f : Nat → Value := fun j => (c.w.cell? ⟨blk, off + j, none⟩).getD undef
      have hf : ∀ j, j < ti.size → c.w.cell? ((⟨blk, off, none⟩ : Addr).add j) = some (f j) := fun j hj => by
        obtain ⟨x, v, _, h1, _⟩ := hcell j hj
        rw [addr_add]
        show _ = some ((c.w.cell? ⟨blk, off + j, none⟩).getD undef)
        rw [h1]; rfl
      have hrun := run_loadCells (P := P) c.w ⟨blk, off, none⟩ ti.size f hf
      refine ⟨.agg ((List.range ti.size).map f).toArray, ?_, ?_⟩
      · unfold loadVar
        simp [run_isAgg c.w ht, hd, run_size c.w ht, hrun]
      · subst hx
        have hget : ∀ (i : Nat) (u : Value), ((List.range ti.size).map f).toArray[i]? = some u → i < ti.size ∧ u = f i := fun i u h1 => by
          rw [List.getElem?_toArray, List.getElem?_map] at h1
          rcases Nat.lt_or_ge i ti.size with h2 | h2
          · rw [List.getElem?_range h2] at h1
            simp at h1
            exact ⟨h2, h1.symm⟩
          · rw [List.getElem?_eq_none (by simpa using h2)] at h1
            simp at h1
        refine .agg _ _ (by simp; omega) (fun i u h1 => ?_) (fun i y u h1 h2 => ?_)
        · obtain ⟨hi, rfl⟩ := hget i u h1
          obtain ⟨x, v, _, h4, h5, _⟩ := hcell i hi
          show (((c.w.cell? ⟨blk, off + i, none⟩).getD undef)).oneCell' = true
          rw [h4]; exact h5
        · obtain ⟨hi, rfl⟩ := hget i u h2
          rw [List.getElem?_take, if_pos hi] at h1
          obtain ⟨x, v, h3, h4, _, h6⟩ := hcell i hi
          rw [h3] at h1
          injection h1 with h1
          show VRel c y ((c.w.cell? ⟨blk, off + i, none⟩).getD undef)
          rw [h4, ← h1]; exact h6
    · rw [if_neg hl] at hx; cases hx
  · rw [if_neg hd] at hx
    obtain ⟨v, h1, _, h3⟩ := hc 0 x hx
    refine ⟨v, ?_, h3⟩
    unfold loadVar
    have hd' : ti.kind.agg = false := by simpa using hd
    rw [Nat.add_zero] at h1
    simp [run_isAgg c.w ht, hd', h1]

theorem nm_takeAs {ti : TI} {cells : List AVal} {x : AVal} {p : Nat → Prop} (hx : takeAs ti cells = some x) (h : ∀ y, y ∈ cells → Nm p y) : Nm p x := by
  unfold takeAs at hx
  by_cases hd : ti.kind.agg = true
  · rw [if_pos hd] at hx
    by_cases hl : ti.size ≤ cells.length
    · rw [if_pos hl] at hx
      injection hx with hx
      exact hx ▸ .agg _ fun y hy => h y (List.mem_of_mem_take hy)
    · rw [if_neg hl] at hx; cases hx
  · rw [if_neg hd] at hx
    exact h x (List.mem_of_getElem? hx)

/-- The cells that a pointer points to. -/
def cellsFrom (h : Heap) : AVal → Option (List AVal)
  | .fp cells => some cells
  | .ptr id sz row col =>
    match lk h id with
    | some (.arr _ rows) => if rows.length = sz then (rows[row]?).map (·.drop col) else none
    | _ => none
  | _ => none

theorem cellsFrom_ok {ext : Nat → Prop} {β : Nat → Option Nat} {p : Nat → Prop} {h : Heap} {w : World} (hin : HIn ext β p h w) {x : AVal} {v : Value} (hv : VRel (cx ext β h w) x v) (hn : Nm p x)
    {cells : List AVal} (hc : cellsFrom h x = some cells) :
    ∃ blk off, v = .pointer (some ⟨blk, off, none⟩) ∧ CellsAt (cx ext β h w) blk off cells ∧ ∀ y, y ∈ cells → Nm p y := by
  cases hv <;> simp only [cellsFrom] at hc <;> try (cases hc; done)
  case fp cells' blk off vals hcell hrel =>
    injection hc with hc
    subst hc
    cases hn with | fp _ hn =>
    exact ⟨blk, off, rfl, fun j x hx => ⟨vals j, (hcell j x hx).2.1, (hcell j x hx).2.2, hrel j x hx⟩, hn⟩
  case ptr id sz row col ad hok =>
    split at hc
    case h_2 => cases hc
    rename_i esz rows hl
    split at hc
    case isFalse => cases hc
    rename_i hsz
    rw [Option.map_eq_some_iff] at hc
    obtain ⟨r, hr, rfl⟩ := hc
    obtain ⟨_, h2⟩ := hok esz rows hl
    obtain ⟨b, hb, rfl⟩ := h2 hsz.symm
    obtain ⟨_, h4⟩ := hin.ob id _ hl
    have hb' : (cx ext β h w).β id = some b := hb
    rw [hb'] at h4
    obtain ⟨cs, e, h5, _, h7⟩ := h4
    refine ⟨b, row * esz + col, rfl, fun j x hx => ?_, fun y hy => (hin.nm id _ hl).2 r (List.mem_of_getElem? hr) y (List.mem_of_mem_drop hy)⟩
    rw [List.getElem?_drop] at hx
    obtain ⟨v, h8, h9, h10⟩ := h7 row r (col + j) x hr hx
    refine ⟨v, ?_, h9, h10⟩
    have h5' : w.heap[b]? = some (.cells cs e (0, 0)) := h5
    show w.cell? ⟨b, row * esz + col + j, none⟩ = some v
    simp only [World.cell?, h5']
    rw [← h8]
    simp [Nat.add_assoc]

def aload (P : Program) (h : Heap) (t : TypeId) (x : AVal) : Option AVal :=
  match tab P t with
  | some ti => (cellsFrom h x).bind (takeAs ti)
  | none => none

theorem aload_ok {P : Program} {ext : Nat → Prop} {β : Nat → Option Nat} {p : Nat → Prop} {h : Heap} {w : World} (hin : HIn ext β p h w) {t : TypeId} {x y : AVal} {v : Value}
    (hv : VRel (cx ext β h w) x v) (hn : Nm p x) (hy : aload P h t x = some y) : ∃ u, (Instr.loadAt t v).run P w = .ok u w ∧ VRel (cx ext β h w) y u ∧ Nm p y := by
  unfold aload at hy
  cases ht : tab P t with
  | none => rw [ht] at hy; cases hy
  | some ti =>
    rw [ht] at hy
    obtain ⟨cells, hc, ht'⟩ := Option.bind_eq_some_iff.1 hy
    obtain ⟨blk, off, rfl, h1, h2⟩ := cellsFrom_ok hin hv hn hc
    obtain ⟨u, h3, h4⟩ := run_loadVar ht h1 ht'
    have h3' : (loadVar t ⟨blk, off, none⟩).run P w = .ok u w := h3
    exact ⟨u, by simpa [Instr.loadAt, Instr.sureAddr] using h3', h4, nm_takeAs ht' h2⟩

end Go.AM
