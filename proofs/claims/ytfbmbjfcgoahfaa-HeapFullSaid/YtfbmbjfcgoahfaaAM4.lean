/-
  AM, part 4: the operations that compute: numbers, texts, equality, parts.
-/
import Derived.Test.YtfbmbjfcgoahfaaAM3
import Derived.Laws.StructEq
namespace Go.AM
open Go

/-- May structs of the type be compared without more ado? -/
def eqok (P : Program) (t : TypeId) : Bool := !P.stoodInHeld t && !P.eqGuardType P.depth t

def band (k : IntKind) (a b : Int) : Int := k.wrap (BitVec.ofInt k.bits a &&& BitVec.ofInt k.bits b).toNat
def bor (k : IntKind) (a b : Int) : Int := k.wrap (BitVec.ofInt k.bits a ||| BitVec.ofInt k.bits b).toNat
def bxor (k : IntKind) (a b : Int) : Int := k.wrap (BitVec.ofInt k.bits a ^^^ BitVec.ofInt k.bits b).toNat
def bclr (k : IntKind) (a b : Int) : Int := k.wrap (BitVec.ofInt k.bits a &&& ~~~BitVec.ofInt k.bits b).toNat

def aint (op : BinOp) (k : IntKind) (a b : Int) : Option AVal :=
  match op with
  | .add => some (.int k (k.wrap (a + b)))
  | .sub => some (.int k (k.wrap (a - b)))
  | .mul => some (.int k (k.wrap (a * b)))
  | .quo => if b = 0 then none else some (.int k (k.wrap (a.tdiv b)))
  | .rem => if b = 0 then none else some (.int k (a.tmod b))
  | .and => some (.int k (band k a b))
  | .or => some (.int k (bor k a b))
  | .xor => some (.int k (bxor k a b))
  | .andNot => some (.int k (bclr k a b))
  | .eql => some (.bool (a == b))
  | .neq => some (.bool (a != b))
  | .lss => some (.bool (a < b))
  | .leq => some (.bool (a ≤ b))
  | .gtr => some (.bool (a > b))
  | .geq => some (.bool (a ≥ b))
  | _ => none

def ashift (op : BinOp) (k : IntKind) (a b : Int) : Option AVal :=
  if b < 0 then none else
  match op with
  | .shl => some (.int k (k.wrap (a * 2 ^ (min b.toNat k.bits))))
  | .shr => some (.int k (a.fdiv (2 ^ (min b.toNat k.bits))))
  | _ => none

def astr (op : BinOp) (x y : ByteArray) : Option AVal :=
  match op with
  | .add => if x.size + y.size ≤ 4611686018427387904 then some (.str (x ++ y)) else none
  | .eql => some (.bool (x.toList == y.toList))
  | .neq => some (.bool !(x.toList == y.toList))
  | .lss => some (.bool (Op.bytesLess x.toList y.toList))
  | .leq => some (.bool (Op.bytesLess x.toList y.toList || x.toList == y.toList))
  | .gtr => some (.bool !(Op.bytesLess x.toList y.toList || x.toList == y.toList))
  | .geq => some (.bool !Op.bytesLess x.toList y.toList)
  | _ => none

/-- A part of a struct's or an array's cells. -/
def apart (agg : Bool) (size : Nat) (cells : List AVal) (off : Nat) : Option AVal :=
  if agg then (if off + size ≤ cells.length then some (.agg ((cells.drop off).take size)) else none) else cells[off]?

/-- Fields, one by one. -/
def aeqs (F : TypeId → AVal → AVal → Option Bool) : List Fld → List AVal → List AVal → Option Bool
  | [], _, _ => some true
  | f :: fs, xs, ys =>
    if f.blank then aeqs F fs xs ys else
    match apart f.agg f.size xs f.off, apart f.agg f.size ys f.off with
    | some a, some b =>
      match F f.type a b with
      | some r => match aeqs F fs xs ys with | some r' => some (r && r') | none => none
      | none => none
    | _, _ => none

def aeq (P : Program) : Nat → TypeId → AVal → AVal → Option Bool
  | 0, _, _, _ => none
  | d + 1, t, x, y =>
    match x, y with
    | .bool a, .bool b => match tab P t with | some ⟨.bool, _, _, _⟩ => some (a == b) | _ => none
    | .int k a, .int k' b => match tab P t with | some ⟨.int _, _, _, _⟩ => if k = k' then some (a == b) else none | _ => none
    | .str a, .str b => match tab P t with | some ⟨.str, _, _, _⟩ => some (a.toList == b.toList) | _ => none
    | .agg xs, .agg ys => match tab P t with | some ⟨.struct fs, _, _, _⟩ => if P.stoodInHeld t then none else aeqs (aeq P d) fs xs ys | _ => none
    | _, _ => none

/-- '==' of what is neither a number nor a text. -/
def aequal (P : Program) (t : TypeId) (x y : AVal) : Option Bool :=
  match x, y with
  | .bool a, .bool b => match tab P t with | some ⟨.bool, _, _, _⟩ => some (a == b) | _ => none
  | .agg xs, .agg ys => if P.eqGuardType P.depth t then none else aeq P 10000 t (.agg xs) (.agg ys)
  | .nilp, .nilp => match tab P t with | some ⟨.ptr _, _, _, _⟩ => some true | _ => none
  | .ptr _ _ _ _, .nilp => match tab P t with | some ⟨.ptr _, _, _, _⟩ => some false | _ => none
  | .fp _, .nilp => match tab P t with | some ⟨.ptr _, _, _, _⟩ => some false | _ => none
  | .iface _ _, .nilIface => match tab P t with | some ⟨.iface _, _, _, _⟩ => some false | _ => none
  | _, _ => none

def abin1 (op : BinOp) (k : IntKind) (a : Int) (k' : IntKind) (b : Int) : Option AVal :=
  match op with
  | .shl => ashift .shl k a b
  | .shr => ashift .shr k a b
  | _ => if k = k' then aint op k a b else none

def abin2 (P : Program) (op : BinOp) (t : TypeId) (x y : AVal) : Option AVal :=
  match op with
  | .eql => (aequal P t x y).map .bool
  | .neq => (aequal P t x y).map fun b => .bool !b
  | _ => none

def abin (P : Program) (op : BinOp) (t : TypeId) (x y : AVal) : Option AVal :=
  match x, y with
  | .int k a, .int k' b => abin1 op k a k' b
  | .str a, .str b => astr op a b
  | x, y => abin2 P op t x y

theorem run_part {P : Program} {t : TypeId} {ti : TI} (ht : tab P t = some ti) {c : Cx} {cells : List AVal} {vs : Array Value} (hlen : vs.size = cells.length)
    (hone : ∀ (i : Nat) v, vs[i]? = some v → v.oneCell' = true) (hrel : ∀ (i : Nat) x v, cells[i]? = some x → vs[i]? = some v → VRel c x v) {off : Nat} {x : AVal}
    (hx : apart ti.kind.agg ti.size cells off = some x) (w : World) : ∃ v, (part t vs off).run P w = .ok v w ∧ VRel c x v := by
  unfold apart at hx
  by_cases hd : ti.kind.agg = true
  · rw [if_pos hd] at hx
    split at hx
    case isFalse => cases hx
    rename_i hl
    injection hx with hx
    refine ⟨.agg (vs.extract off (off + ti.size)), by simp [part, run_isAgg w ht, hd, run_size w ht], ?_⟩
    subst hx
    have hg : ∀ (i : Nat) u, (vs.extract off (off + ti.size))[i]? = some u → i < ti.size ∧ vs[off + i]? = some u := fun i u hu => by
      have hlt := (Array.getElem?_eq_some_iff.1 hu).1
      simp at hlt
      have he := Array.getElem?_extract (xs := vs) (start := off) (stop := off + ti.size) (i := i)
      by_cases hc : i < min (off + ti.size) vs.size - off
      · rw [if_pos hc] at he
        exact ⟨by omega, he ▸ hu⟩
      · rw [if_neg hc] at he
        rw [he] at hu
        cases hu
    refine .agg _ _ (by simp; omega) (fun i u hu => hone _ _ (hg i u hu).2) fun i y u h1 h2 => ?_
    obtain ⟨hi, h3⟩ := hg i u h2
    rw [List.getElem?_take, if_pos hi, List.getElem?_drop] at h1
    exact hrel _ _ _ h1 h3
  · rw [if_neg hd] at hx
    have hd' : ti.kind.agg = false := by simpa using hd
    have hlt : off < vs.size := by rw [hlen]; exact (List.getElem?_eq_some_iff.1 hx).1
    refine ⟨vs[off], ?_, hrel off x _ hx (Array.getElem?_eq_getElem hlt)⟩
    simp [part, run_isAgg w ht, hd', Array.getElem?_eq_getElem hlt]

theorem nm_apart {agg : Bool} {size : Nat} {cells : List AVal} {off : Nat} {x : AVal} {p : Nat → Prop} (hx : apart agg size cells off = some x) (h : ∀ y, y ∈ cells → Nm p y) : Nm p x := by
  unfold apart at hx
  split at hx
  · split at hx
    · injection hx with hx
      exact hx ▸ .agg _ fun y hy => h y (List.mem_of_mem_drop (List.mem_of_mem_take hy))
    · cases hx
  · exact h x (List.mem_of_getElem? hx)

theorem kind_struct {P : Program} {t : TypeId} {fs : List Fld} (h : ∃ ti, tab P t = some ti ∧ ti.kind = .struct fs) :
    ∃ gs : Array Field, P.underlying t = some (.struct gs) ∧ gs.toList.mapM (fun f => (P.info? f.type).bind fun i => (P.underlying f.type).map fun d => { off := f.offset, size := i.size, agg := aggD d, type := f.type, blank := f.name == "_" : Fld }) = some fs := by
  obtain ⟨ti, h1, h2⟩ := h
  obtain ⟨i, d, z, _, h4, _, h6, _⟩ := tab_spec h1
  rw [h2] at h6
  cases d <;> simp [kindOf] at h6
  rename_i gs
  exact ⟨gs, h4, h6⟩

theorem mapM_cons_some {α β : Type} {f : α → Option β} {a : α} {l : List α} {r : List β} (h : (a :: l).mapM f = some r) : ∃ b bs, f a = some b ∧ l.mapM f = some bs ∧ r = b :: bs := by
  simp only [List.mapM_cons, Option.bind_eq_bind, Option.pure_def] at h
  obtain ⟨b, hb, h⟩ := Option.bind_eq_some_iff.1 h
  obtain ⟨bs, hbs, h⟩ := Option.bind_eq_some_iff.1 h
  injection h with h
  exact ⟨b, bs, hb, hbs, h.symm⟩

/-- A part of an aggregate by a field's row. -/
theorem run_part' {P : Program} {t : TypeId} {i : TypeInfo} {d : TypeDesc} (hi : P.info? t = some i) (hd : P.underlying t = some d) {c : Cx} {cells : List AVal} {vs : Array Value} (hlen : vs.size = cells.length)
    (hone : ∀ (i : Nat) v, vs[i]? = some v → v.oneCell' = true) (hrel : ∀ (i : Nat) x v, cells[i]? = some x → vs[i]? = some v → VRel c x v) {off : Nat} {x : AVal}
    (hx : apart (aggD d) i.size cells off = some x) (w : World) : ∃ v, (part t vs off).run P w = .ok v w ∧ VRel c x v := by
  have ha : (isAgg t).run P w = .ok (aggD d) w := by
    unfold isAgg
    rw [Sem.run_bind, run_underlying hd]
    cases d <;> simp [aggD]
  have hs : (sizeOf t).run P w = .ok i.size w := by simp [sizeOf, typeInfo, hi]
  unfold apart at hx
  by_cases hdd : aggD d = true
  · rw [if_pos hdd] at hx
    split at hx
    case isFalse => cases hx
    rename_i hl
    injection hx with hx
    refine ⟨.agg (vs.extract off (off + i.size)), by simp [part, ha, hdd, hs], ?_⟩
    subst hx
    have hg : ∀ (j : Nat) u, (vs.extract off (off + i.size))[j]? = some u → j < i.size ∧ vs[off + j]? = some u := fun j u hu => by
      have hlt := (Array.getElem?_eq_some_iff.1 hu).1
      simp at hlt
      have he := Array.getElem?_extract (xs := vs) (start := off) (stop := off + i.size) (i := j)
      by_cases hc : j < min (off + i.size) vs.size - off
      · rw [if_pos hc] at he
        exact ⟨by omega, he ▸ hu⟩
      · rw [if_neg hc] at he
        rw [he] at hu
        cases hu
    refine .agg _ _ (by simp; omega) (fun j u hu => hone _ _ (hg j u hu).2) fun j y u h1 h2 => ?_
    obtain ⟨hj, h3⟩ := hg j u h2
    rw [List.getElem?_take, if_pos hj, List.getElem?_drop] at h1
    exact hrel _ _ _ h1 h3
  · rw [if_neg hdd] at hx
    have hd' : aggD d = false := by simpa using hdd
    have hlt : off < vs.size := by rw [hlen]; exact (List.getElem?_eq_some_iff.1 hx).1
    refine ⟨vs[off], ?_, hrel off x _ hx (Array.getElem?_eq_getElem hlt)⟩
    simp [part, ha, hd', Array.getElem?_eq_getElem hlt]

theorem tab_kind {P : Program} {t : TypeId} {k : TK} {n m : Nat} {z : AVal} (h : tab P t = some ⟨k, n, m, z⟩) : ∃ d, P.underlying t = some d ∧ kindOf P d = some k :=
  let ⟨_, d, _, _, h2, _, h4, _⟩ := tab_spec h; ⟨d, h2, h4⟩

theorem und_bool {P : Program} {t : TypeId} {n m : Nat} {z : AVal} (h : tab P t = some ⟨.bool, n, m, z⟩) : P.underlying t = some .bool := by
  obtain ⟨d, h1, h2⟩ := tab_kind h
  cases d <;> simp [kindOf] at h2
  exact h1

theorem und_int {P : Program} {t : TypeId} {k : IntKind} {n m : Nat} {z : AVal} (h : tab P t = some ⟨.int k, n, m, z⟩) : P.underlying t = some (.int k) := by
  obtain ⟨d, h1, h2⟩ := tab_kind h
  cases d <;> simp [kindOf] at h2
  exact h2 ▸ h1

theorem und_str {P : Program} {t : TypeId} {n m : Nat} {z : AVal} (h : tab P t = some ⟨.str, n, m, z⟩) : P.underlying t = some .string := by
  obtain ⟨d, h1, h2⟩ := tab_kind h
  cases d <;> simp [kindOf] at h2
  exact h1

theorem und_ptr {P : Program} {t e : TypeId} {n m : Nat} {z : AVal} (h : tab P t = some ⟨.ptr e, n, m, z⟩) : P.underlying t = some (.pointer e) := by
  obtain ⟨d, h1, h2⟩ := tab_kind h
  cases d <;> simp [kindOf] at h2
  exact h2 ▸ h1

theorem und_slice {P : Program} {t e : TypeId} {n m : Nat} {z : AVal} (h : tab P t = some ⟨.slice e, n, m, z⟩) : P.underlying t = some (.slice e) := by
  obtain ⟨d, h1, h2⟩ := tab_kind h
  cases d <;> simp [kindOf] at h2
  exact h2 ▸ h1

theorem und_array {P : Program} {t e : TypeId} {l n m : Nat} {z : AVal} (h : tab P t = some ⟨.array l e, n, m, z⟩) : P.underlying t = some (.array l e) := by
  obtain ⟨d, h1, h2⟩ := tab_kind h
  cases d <;> simp [kindOf] at h2
  obtain ⟨rfl, rfl⟩ := h2
  exact h1

theorem und_map {P : Program} {t k e : TypeId} {n m : Nat} {z : AVal} (h : tab P t = some ⟨.map k e, n, m, z⟩) : P.underlying t = some (.map k e) := by
  obtain ⟨d, h1, h2⟩ := tab_kind h
  cases d <;> simp [kindOf] at h2
  obtain ⟨rfl, rfl⟩ := h2
  exact h1

theorem und_iface {P : Program} {t : TypeId} {l n m : Nat} {z : AVal} (h : tab P t = some ⟨.iface l, n, m, z⟩) : ∃ ms, P.underlying t = some (.interface ms) := by
  obtain ⟨d, h1, h2⟩ := tab_kind h
  cases d <;> simp [kindOf] at h2
  rename_i ms
  exact ⟨ms, h1⟩

theorem eqFields_ok {P : Program} (c : Cx) (w : World) (d : Nat)
    (hF : ∀ (t : TypeId) (x y : AVal) (v u : Value) (b : Bool), VRel c x v → VRel c y u → aeq P d t x y = some b → (Op.equalIn d t v u).run P w = .ok b w) :
    ∀ (gs : List Field) (fs : List Fld) (xs ys : List AVal) (vs us : Array Value) (b : Bool),
      gs.mapM (fun f => (P.info? f.type).bind fun i => (P.underlying f.type).map fun d => { off := f.offset, size := i.size, agg := aggD d, type := f.type, blank := f.name == "_" : Fld }) = some fs →
      VRel c (.agg xs) (.agg vs) → VRel c (.agg ys) (.agg us) → aeqs (aeq P d) fs xs ys = some b → (Op.eqFields d vs us gs).run P w = .ok b w := by
  intro gs
  induction gs with
  | nil => intro fs xs ys vs us b hm _ _ h; simp at hm; subst hm; simp [aeqs] at h; subst h; simp [Op.eqFields]
  | cons g gs ih =>
    intro fs xs ys vs us b hm hx hy h
    obtain ⟨f, fs', hf, hfs, rfl⟩ := mapM_cons_some hm
    obtain ⟨i, hi, hf⟩ := Option.bind_eq_some_iff.1 hf
    obtain ⟨dd, hd, hf⟩ := Option.map_eq_some_iff.1 hf
    subst hf
    simp only [aeqs] at h
    by_cases hb : (g.name == "_") = true
    · rw [if_pos hb] at h
      have : ¬ g.name ≠ "_" := by simpa using hb
      simp only [Op.eqFields, if_neg this]
      exact ih fs' xs ys vs us b hfs hx hy h
    · rw [if_neg hb] at h
      have hne : g.name ≠ "_" := by simpa using hb
      split at h
      case h_2 => cases h
      rename_i a a' h1 h2
      split at h
      case h_2 => cases h
      rename_i r h3
      split at h
      case h_2 => cases h
      rename_i r' h4
      injection h with h
      have hx0 := hx
      have hy0 := hy
      cases hx with | agg _ _ l1 o1 r1 =>
      cases hy with | agg _ _ l2 o2 r2 =>
      obtain ⟨p1, q1, q2⟩ := run_part' hi hd l1 o1 r1 h1 w
      obtain ⟨p2, q3, q4⟩ := run_part' hi hd l2 o2 r2 h2 w
      have q5 := hF _ _ _ _ _ _ q2 q4 h3
      simp only [Op.eqFields, if_pos hne, Sem.run_bind, q1, q3, Result.andThen_ok, q5]
      cases r with
      | false => subst h; simp
      | true =>
        simp only [Bool.not_true, Bool.false_eq_true, if_false, Bool.true_and] at h ⊢
        subst h
        exact ih fs' xs ys vs us r' hfs hx0 hy0 h4

/-- Equality of what is made of numbers, texts and structs. -/
theorem aeq_ok {P : Program} (c : Cx) (w : World) : ∀ (d : Nat) (t : TypeId) (x y : AVal) (v u : Value) (b : Bool),
    VRel c x v → VRel c y u → aeq P d t x y = some b → (Op.equalIn d t v u).run P w = .ok b w := by
  intro d
  induction d with
  | zero => exact fun t x y v u b _ _ h => by simp [aeq] at h
  | succ d ihd =>
    intro t x y v u b hx hy h
    cases hx <;> cases hy <;> simp only [aeq] at h <;> try (cases h; done)
    case bool.bool b1 b2 =>
      split at h
      case h_2 => cases h
      rename_i ht
      injection h with h
      subst h
      exact run_equalIn_bool' w d t b1 b2 (und_bool ht)
    case int.int k n k' n' =>
      split at h
      case h_2 => cases h
      rename_i ht
      split at h
      case isFalse => cases h
      rename_i hk
      subst hk
      injection h with h
      subst h
      exact run_equalIn_int w d t k _ n n' (und_int ht)
    case str.str s s' =>
      split at h
      case h_2 => cases h
      rename_i ht
      injection h with h
      subst h
      exact run_equalIn_string w d t s s' (und_str ht)
    case agg.agg xs vs l1 o1 r1 ys us l2 o2 r2 =>
      split at h
      case h_2 => cases h
      rename_i fs _ _ _ ht
      split at h
      case isTrue => cases h
      rename_i hst
      obtain ⟨gs, hg, hm⟩ := kind_struct ⟨_, ht, rfl⟩
      have hgf : P.fieldsOf t = gs := by unfold Program.fieldsOf; rw [hg]
      rw [run_equalIn_struct w d t vs us (by rw [hgf]; exact hg) (by simpa using hst), hgf]
      exact eqFields_ok c w d ihd gs.toList fs xs ys vs us b hm (.agg xs vs l1 o1 r1) (.agg ys us l2 o2 r2) h

theorem run_eq_nilp {P : Program} (w : World) (d : Nat) {t e : TypeId} (h : P.underlying t = some (.pointer e)) (a : Option Addr) :
    (Op.equalIn (d + 1) t (.pointer none) (.pointer a)).run P w = .ok a.isNone w := by
  simp [Op.equalIn, run_underlying h]

theorem run_eq_pnil {P : Program} (w : World) (d : Nat) {t e : TypeId} (h : P.underlying t = some (.pointer e)) (a : Addr) :
    (Op.equalIn (d + 1) t (.pointer (some a)) (.pointer none)).run P w = .ok false w := by
  simp [Op.equalIn, run_underlying h]

theorem run_eq_ifnil {P : Program} (w : World) (d : Nat) {t : TypeId} {ms : Array (String × TypeId)} (h : P.underlying t = some (.interface ms)) (u : TypeId) (v : Value) :
    (Op.equalIn (d + 1) t (.iface u v) .nilIface).run P w = .ok false w := by
  simp [Op.equalIn, run_underlying h]

theorem aequal_ok {P : Program} (c : Cx) (w : World) {t : TypeId} {x y : AVal} {v u : Value} {b : Bool} (hx : VRel c x v) (hy : VRel c y u) (h : aequal P t x y = some b) (ox oy : Operand) (op : BinOp) :
    (eqGuard op t ox oy v u).run P w = .ok () w ∧ (Op.equal t v u).run P w = .ok b w := by
  cases hx <;> cases hy <;> simp only [aequal] at h <;> try (cases h; done)
  case bool.bool b1 b2 =>
    split at h
    case h_2 => cases h
    rename_i ht
    injection h with h
    subst h
    exact ⟨by cases op <;> simp [eqGuard], run_equalIn_bool' w 9999 t b1 b2 (und_bool ht)⟩
  case agg.agg xs vs l1 o1 r1 ys us l2 o2 r2 =>
    split at h
    case isTrue => cases h
    rename_i hg
    exact ⟨run_eqGuard_agg w op t ox oy vs us (by simpa using hg), aeq_ok c w 10000 t _ _ _ _ b (.agg xs vs l1 o1 r1) (.agg ys us l2 o2 r2) h⟩
  case nilp.nilp =>
    split at h
    case h_2 => cases h
    rename_i ht
    injection h with h
    subst h
    exact ⟨by cases op <;> simp [eqGuard], run_eq_nilp w 9999 (und_ptr ht) none⟩
  case ptr.nilp =>
    split at h
    case h_2 => cases h
    rename_i ht
    injection h with h
    subst h
    exact ⟨by cases op <;> simp [eqGuard], run_eq_pnil w 9999 (und_ptr ht) _⟩
  case fp.nilp =>
    split at h
    case h_2 => cases h
    rename_i ht
    injection h with h
    subst h
    exact ⟨by cases op <;> simp [eqGuard], run_eq_pnil w 9999 (und_ptr ht) _⟩
  case iface.nilIface =>
    split at h
    case h_2 => cases h
    rename_i ht
    injection h with h
    subst h
    obtain ⟨ms, hms⟩ := und_iface ht
    exact ⟨by cases op <;> simp [eqGuard], run_eq_ifnil w 9999 hms _ _⟩

theorem aint_ok {P : Program} (c : Cx) (w : World) {op : BinOp} (t : TypeId) {k : IntKind} {a b : Int} {z : AVal} (h : aint op k a b = some z) (ox oy : Operand) :
    ∃ r, (do eqGuard op t ox oy (.int k a) (.int k b); binOp op t (.int k a) (.int k b) : Sem Value).run P w = .ok r w ∧ VRel c z r ∧ Fz z := by
  cases op <;> simp only [aint] at h <;> try (cases h; done)
  case quo =>
    split at h
    · cases h
    · rename_i hb
      injection h with h
      subst h
      exact ⟨_, by simp [eqGuard, binOp, Op.intDiv, hb], .int _ _, .int _ _⟩
  case rem =>
    split at h
    · cases h
    · rename_i hb
      injection h with h
      subst h
      exact ⟨_, by simp [eqGuard, binOp, Op.intDiv, hb], .int _ _, .int _ _⟩
  all_goals
    injection h with h
    subst h
    first
      | exact ⟨_, by simp [eqGuard, binOp, Op.intArith, Op.intBits, band, bor, bxor, bclr], .int _ _, .int _ _⟩
      | exact ⟨_, by simp [eqGuard, binOp, Op.intCmp], .bool _, .bool _⟩

theorem ashift_ok {P : Program} (c : Cx) (w : World) {op : BinOp} (t : TypeId) {k k' : IntKind} {a b : Int} {z : AVal} (h : ashift op k a b = some z) (ox oy : Operand) :
    ∃ r, (do eqGuard op t ox oy (.int k a) (.int k' b); binOp op t (.int k a) (.int k' b) : Sem Value).run P w = .ok r w ∧ VRel c z r ∧ Fz z := by
  unfold ashift at h
  split at h
  · cases h
  rename_i hb
  cases op <;> simp only [] at h <;> try (cases h; done)
  all_goals
    injection h with h
    subst h
    exact ⟨_, by simp [eqGuard, binOp, Op.shift, hb], .int _ _, .int _ _⟩

theorem astr_ok {P : Program} (c : Cx) (w : World) {op : BinOp} (t : TypeId) {x y : ByteArray} {z : AVal} (h : astr op x y = some z) (ox oy : Operand) :
    ∃ r, (do eqGuard op t ox oy (.string x) (.string y); binOp op t (.string x) (.string y) : Sem Value).run P w = .ok r w ∧ VRel c z r ∧ Fz z := by
  cases op <;> simp only [astr] at h <;> try (cases h; done)
  case add =>
    split at h
    case isFalse => cases h
    rename_i hb
    injection h with h
    subst h
    have hb' : ¬ (((x.size + y.size : Nat) : Int) > IntKind.i64.max) := by
      have : IntKind.i64.max = 9223372036854775807 := rfl
      omega
    exact ⟨.string (x ++ y), by simp only [eqGuard, binOp, Op.stringOp, if_neg hb', Sem.run_bind]; simp, .str _, .str _⟩
  all_goals
    injection h with h
    subst h
    exact ⟨_, by simp only [eqGuard, binOp, Op.stringOp, Sem.run_bind]; simp, .bool _, .bool _⟩

theorem abin_ok {P : Program} (c : Cx) (w : World) {op : BinOp} {t : TypeId} {x y z : AVal} {v u : Value} (hx : VRel c x v) (hy : VRel c y u) (h : abin P op t x y = some z) (ox oy : Operand) :
    ∃ r, (do eqGuard op t ox oy v u; binOp op t v u : Sem Value).run P w = .ok r w ∧ VRel c z r ∧ Fz z := by
  have hgen : ∀ (b : Bool) (x y : AVal) (v u : Value), VRel c x v → VRel c y u → aequal P t x y = some b →
      ((∃ r, (do eqGuard .eql t ox oy v u; binOp .eql t v u : Sem Value).run P w = .ok r w ∧ VRel c (.bool b) r ∧ Fz (.bool b)) ∧
       (∃ r, (do eqGuard .neq t ox oy v u; binOp .neq t v u : Sem Value).run P w = .ok r w ∧ VRel c (.bool !b) r ∧ Fz (.bool !b))) := by
    intro b x y v u hx hy he
    have hq : ∀ op, (eqGuard op t ox oy v u).run P w = .ok () w ∧ (Op.equal t v u).run P w = .ok b w := fun op => aequal_ok c w hx hy he ox oy op
    have h1 : (binOp .eql t v u) = (do pure (.bool (← Op.equal t v u))) ∧ (binOp .neq t v u) = (do pure (.bool (!(← Op.equal t v u)))) := by
      cases hx <;> cases hy <;> simp only [aequal] at he <;> first | (cases he; done) | exact ⟨rfl, rfl⟩
    refine ⟨⟨.bool b, ?_, .bool _, .bool _⟩, ⟨.bool !b, ?_, .bool _, .bool _⟩⟩
    · simp [(hq .eql).1, h1.1, (hq .eql).2]
    · simp [(hq .neq).1, h1.2, (hq .neq).2]
  unfold abin at h
  split at h
  · rename_i k a k' b
    cases hx; cases hy
    unfold abin1 at h
    split at h
    · exact ashift_ok c w t h ox oy
    · exact ashift_ok c w t h ox oy
    · split at h
      case isFalse => cases h
      rename_i hk
      subst hk
      exact aint_ok c w t h ox oy
  · cases hx; cases hy
    exact astr_ok c w t h ox oy
  · unfold abin2 at h
    cases op <;> simp only [] at h <;> try (cases h; done)
    · obtain ⟨b, hb, rfl⟩ := Option.map_eq_some_iff.1 h
      exact (hgen b _ _ v u hx hy hb).1
    · obtain ⟨b, hb, rfl⟩ := Option.map_eq_some_iff.1 h
      exact (hgen b _ _ v u hx hy hb).2

end Go.AM
