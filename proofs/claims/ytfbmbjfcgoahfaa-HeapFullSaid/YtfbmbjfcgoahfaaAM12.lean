/-
  AM, part 12: rows of operations; calls of functions that only read; a function by its body.
-/
import Derived.Test.YtfbmbjfcgoahfaaAM11
namespace Go.AM
open Go

def putT (tmps : List AVal) (dst : Option Tmp) (x : AVal) : List AVal :=
  match dst with
  | some d => tmps.set d x
  | none => tmps

/-- What an operation's guard says: is it to be done? -/
def guardA (all : Array Oper) (tmps : List AVal) (o : Oper) : Option Bool :=
  match o.guard with
  | none => some true
  | some (j, want) =>
    match (all[j]?).bind (·.dst) with
    | some d => match tmps.getD d .junk with | .bool b => some (b == want) | .tuple [] => some false | _ => none
    | none => none

section
variable {P : Program} {n0 : Nat} {ext : Nat → Prop} {β : Nat → Option Nat} {p : Nat → Prop} {tmps : List AVal} {h : Heap} {a : Act} {w : World} {fresh : Nat}

theorem guard_ok (i : SInP n0 ext β p tmps h a w) {all : Array Oper} {o : Oper} {b : Bool} (hg : guardA all tmps o = some b) : Region.wanted o (yielded all a.tmps) = b := by
  unfold guardA at hg
  unfold Region.wanted
  split at hg
  · rename_i hn; rw [hn]; injection hg with hg
  · rename_i j want hn
    rw [hn]
    split at hg
    case h_2 => cases hg
    rename_i d hd
    split at hg
    case h_3 => cases hg
    case h_2 hb =>
      injection hg with hg
      have hv := i.ev (.tmp d)
      simp only [AM.ev] at hv
      rw [hb] at hv
      generalize hz : a.eval (.tmp d) = v at hv
      cases hv with
      | tuple _ vs hlen _ =>
        simp only [yielded, hd, Option.bind_some]
        rw [← hg]
        simp only [Act.eval, Array.getD_eq_getD_getElem?] at hz
        cases hq : a.tmps[d]? with
        | none => cases want <;> rfl
        | some u =>
          rw [hq, Option.getD_some] at hz
          subst hz
          cases want <;> rfl
    rename_i b0 hb
    injection hg with hg
    have hv := i.ev (.tmp d)
    simp only [AM.ev] at hv
    rw [hb] at hv
    generalize hz : a.eval (.tmp d) = v at hv
    cases hv
    have hlt : d < a.tmps.size := by
      rcases Nat.lt_or_ge d a.tmps.size with h1 | h1
      · exact h1
      · simp only [Act.eval, Array.getD_eq_getD_getElem?, Array.getElem?_eq_none h1, Option.getD_none] at hz
        cases hz
    have : a.tmps[d]? = some (.bool b0) := by
      simp only [Act.eval, Array.getD_eq_getD_getElem?, Array.getElem?_eq_getElem hlt, Option.getD_some] at hz
      rw [Array.getElem?_eq_getElem hlt, hz]
    simp only [yielded, hd, Option.bind_some, this]
    rw [← hg]
    cases b0 <;> cases want <;> rfl

theorem rel_undef {c : Cx} : VRel c (.tuple []) undef := .tuple [] #[] rfl (fun i x v h => by simp at h)

/-- A slot is written, and the world goes on. -/
theorem SInP.put {q : Nat → Prop} {β' : Nat → Option Nat} {h' : Heap} {w' : World} (i : SInP n0 ext β p tmps h a w) (hin : HIn ext β' q h' w') (hpq : ∀ j, p j → q j) (hst : Step p (cx ext β h w) (cx ext β' h' w'))
    {x : AVal} {v : Value} (hv : VRel (cx ext β' h' w') x v) (hn : Nm q x) (dst : Option Tmp) : SInP n0 ext β' q (putT tmps dst x) h' (a.put dst v) w' := by
  refine ⟨hin, ?_, fun k y u hy hu => ?_, fun y hy => ?_, ?_, fun j hj => hpq j (i.low j hj)⟩
  · cases dst <;> simp [putT, Act.put, i.size]
  · cases dst with
    | none => exact (i.rel k y u hy hu).step hst (i.nm y (List.mem_of_getElem? hy))
    | some d =>
      simp only [putT, Act.put] at hy hu
      by_cases e : d = k
      · subst e
        have hlt : d < tmps.length := by have := (List.getElem?_eq_some_iff.1 hy).1; simpa using this
        rw [List.getElem?_set_self hlt] at hy
        rw [Array.getElem?_setIfInBounds_self_of_lt (by rw [i.size]; exact hlt)] at hu
        injection hy with hy
        injection hu with hu
        exact hy ▸ hu ▸ hv
      · rw [List.getElem?_set_ne e] at hy
        rw [Array.getElem?_setIfInBounds_ne e] at hu
        exact (i.rel k y u hy hu).step hst (i.nm y (List.mem_of_getElem? hy))
  · cases dst with
    | none => exact (i.nm y hy).mono hpq
    | some d =>
      simp only [putT] at hy
      rcases List.mem_or_eq_of_mem_set hy with h1 | h1
      · exact (i.nm y h1).mono hpq
      · exact h1 ▸ hn
  · cases dst <;> simp [Act.put, i.defers]

theorem SInP.mono {q : Nat → Prop} (i : SInP n0 ext β p tmps h a w) (hpq : ∀ j, p j → q j) : SInP n0 ext β q tmps h a w :=
  ⟨i.heap.mono hpq, i.size, i.rel, fun y hy => (i.nm y hy).mono hpq, i.defers, fun j hj => hpq j (i.low j hj)⟩

end

/-- A row of operations, one behind the other. -/
def AO (P : Program) (n0 : Nat) (all : Array Oper) (rest : List Oper) (i : Nat) (K : St → Prop) (s : St) : Prop :=
  all.toList.drop i = rest → ∀ ext β a w, SIn n0 ext β s a w → ∀ Q, (∀ β' s' a' w', K s' → SIn n0 ext β' s' a' w' → Goes n0 ext β s.h w β' s'.h w' → Q .normal a' w') →
    wpOps P all Q (List.range' i rest.length) a w

section
variable {P : Program} {n0 : Nat} {all : Array Oper} {K : St → Prop}

theorem AO_nil {i : Nat} {s : St} (h : K s) : AO P n0 all [] i K s := fun _ ext β _ w hs _ hq => hq β s _ _ h hs (Goes.refl n0 ext β s.h w)

theorem AO_cons {o : Oper} {rest : List Oper} {i : Nat} {s : St}
    (h : ∀ ext β a w, SIn n0 ext β s a w → all[i]? = some o → ∀ Q (next : Act → World → Prop),
      (∀ β' s' a' w', AO P n0 all rest (i + 1) K s' → SIn n0 ext β' s' a' w' → Goes n0 ext β s.h w β' s'.h w' → next a' w') →
      if Region.wanted o (yielded all a.tmps) then o.wp P a w next Q ∨ (o.asks P a w ∧ LetsOut Q) else next (a.put o.dst undef) w) : AO P n0 all (o :: rest) i K s := by
  intro hd ext β a w hs Q hq
  have ho : all[i]? = some o := by
    have h1 : (all.toList.drop i)[0]? = some o := by rw [hd]; rfl
    rw [List.getElem?_drop] at h1
    simpa using h1
  have hd' : all.toList.drop (i + 1) = rest := by
    rw [← List.tail_drop, hd]; rfl
  rw [List.length_cons, List.range'_succ, wpOps, ho]
  exact h ext β a w hs ho Q _ fun β' s' a' w' hao hs' hg => hao hd' ext β' a' w' hs' Q fun β2 s2 a2 w2 hk hs2 hg2 => hq β2 s2 a2 w2 hk hs2 (hg.trans hg2)

theorem AO_step {o : Oper} {rest : List Oper} {i : Nat} {s : St} {y : AVal} {h' : Heap} (hg : guardA all s.tmps o = some true) (hy : astep P s.tmps s.h s.nx o = some (y, h'))
    (h : AO P n0 all rest (i + 1) K ⟨putT s.tmps o.dst y, h', s.nx + 1⟩) : AO P n0 all (o :: rest) i K s := by
  refine AO_cons fun ext β a w hs ho Q next hnext => ?_
  rw [guard_ok hs hg, if_pos rfl]
  obtain ⟨r, v, w', β', h1, h2, h3, h4, h5, h6, h7⟩ := astep_ok hs (fun hp => Nat.lt_irrefl _ hp) hy
  have hpq : ∀ j, Lt s.nx j ∨ j = s.nx → Lt (s.nx + 1) j := fun j hj => by rcases hj with hj | hj <;> simp only [Lt] at * <;> omega
  have hs' : SIn n0 ext β' ⟨putT s.tmps o.dst y, h', s.nx + 1⟩ (a.put o.dst v) w' := (hs.put h3 (fun _ => .inl) h7 h4 h5 o.dst).mono hpq
  refine .inl ?_
  unfold Oper.wp
  rw [h1]
  rcases h2 with rfl | ⟨rfl, rfl⟩
  · exact hnext β' _ _ _ h hs' ⟨h6, h7.weaken fun j hj => Nat.lt_of_lt_of_le hj (by
      have := hs.low
      rcases Nat.lt_or_ge s.nx n0 with h8 | h8
      · exact absurd (this s.nx h8) (Nat.lt_irrefl _)
      · exact h8)⟩
  · exact hnext β' _ _ _ h hs' ⟨h6, h7.weaken fun j hj => Nat.lt_of_lt_of_le hj (by
      have := hs.low
      rcases Nat.lt_or_ge s.nx n0 with h8 | h8
      · exact absurd (this s.nx h8) (Nat.lt_irrefl _)
      · exact h8)⟩

theorem AO_skip {o : Oper} {rest : List Oper} {i : Nat} {s : St} (hg : guardA all s.tmps o = some false) (h : AO P n0 all rest (i + 1) K ⟨putT s.tmps o.dst (.tuple []), s.h, s.nx + 1⟩) : AO P n0 all (o :: rest) i K s := by
  refine AO_cons fun ext β a w hs ho Q next hnext => ?_
  rw [guard_ok hs hg, if_neg (by simp)]
  have hpq : ∀ j, Lt s.nx j → Lt (s.nx + 1) j := fun j hj => by simp only [Lt] at *; omega
  exact hnext β _ _ _ h ((hs.put hs.heap (fun _ => id) (Step.refl _ _) rel_undef (.tuple [] (by simp)) o.dst).mono hpq) (Goes.refl n0 ext β s.h w)

end

/-! ### Values, as they are when nobody writes any more -/

/-- A value, with what it names of some objects as it stands now. -/
inductive Frz (h : Heap) (S : Nat → Prop) : AVal → AVal → Prop
  | refl (x : AVal) : Frz h S x x
  | ref (id sz base len : Nat) (ex : Bool) (c esz : Nat) (rows rows' : List (List AVal)) (lim : Option Nat) (hS : S id) (hl : lk h id = some (.arr esz rows)) (hsz : rows.length = sz) (hlen : rows'.length = len) (hlim : lim = none ∨ (ex = true ∧ lim = some c))
      (hrow : ∀ (i : Nat) r r', rows[base + i]? = some r → rows'[i]? = some r' → r'.length = r.length)
      (hrel : ∀ (i : Nat) r r' (j : Nat) x x', rows[base + i]? = some r → rows'[i]? = some r' → r[j]? = some x → r'[j]? = some x' → Frz h S x x') : Frz h S (.ref id sz base len ex c) (.sl rows' lim)
  | ptr (id sz row col esz : Nat) (rows : List (List AVal)) (r cells : List AVal) (hS : S id) (hl : lk h id = some (.arr esz rows)) (hsz : rows.length = sz) (hr : rows[row]? = some r) (hlen : cells.length ≤ r.length - col)
      (hrel : ∀ (j : Nat) x x', r[col + j]? = some x → cells[j]? = some x' → Frz h S x x') : Frz h S (.ptr id sz row col) (.fp cells)
  | agg (xs ys : List AVal) (hlen : ys.length = xs.length) (hrel : ∀ (i : Nat) x y, xs[i]? = some x → ys[i]? = some y → Frz h S x y) : Frz h S (.agg xs) (.agg ys)
  | tuple (xs ys : List AVal) (hlen : ys.length = xs.length) (hrel : ∀ (i : Nat) x y, xs[i]? = some x → ys[i]? = some y → Frz h S x y) : Frz h S (.tuple xs) (.tuple ys)
  | func (fn : Fn) (xs ys us vs : List AVal) (hlen : ys.length = xs.length) (hlen' : vs.length = us.length) (hrel : ∀ (i : Nat) x y, xs[i]? = some x → ys[i]? = some y → Frz h S x y)
      (hrel' : ∀ (i : Nat) x y, us[i]? = some x → vs[i]? = some y → Frz h S x y) : Frz h S (.func fn xs us) (.func fn ys vs)
  | iface (t : TypeId) (x y : AVal) (hrel : Frz h S x y) : Frz h S (.iface t x) (.iface t y)
  | sl (rows rows' : List (List AVal)) (lim : Option Nat) (hlen : rows'.length = rows.length) (hrow : ∀ (i : Nat) r r', rows[i]? = some r → rows'[i]? = some r' → r'.length = r.length)
      (hrel : ∀ (i : Nat) r r' (j : Nat) x x', rows[i]? = some r → rows'[i]? = some r' → r[j]? = some x → r'[j]? = some x' → Frz h S x x') : Frz h S (.sl rows lim) (.sl rows' none)

theorem mem_get {α : Type} {l : List α} {x : α} (h : x ∈ l) : ∃ i : Nat, l[i]? = some x := List.getElem?_of_mem h

theorem VRel.nm_true {c : Cx} {x : AVal} {v : Value} (h : VRel c x v) : Nm (fun _ => True) x := by
  induction h with
  | junk v => exact .junk
  | bool b => exact .bool b
  | int k n => exact .int k n
  | str s => exact .str s
  | nilp => exact .nilp
  | sl rows lim a cap esz blk off vals hcap hlim hrow ha hcell hrel ih =>
    refine .sl rows lim fun r hr x hx => ?_
    obtain ⟨i, hi⟩ := mem_get hr
    obtain ⟨j, hj⟩ := mem_get hx
    exact ih i r j x hi hj
  | ref id sz base len ex c0 a cap hcap hlo hex hok => exact .ref _ _ _ _ _ _ trivial
  | ptr id sz row col ad hok => exact .ptr _ _ _ _ trivial
  | fp cells blk off vals hcell hrel ih =>
    refine .fp cells fun x hx => ?_
    obtain ⟨j, hj⟩ := mem_get hx
    exact ih j x hj
  | agg cells vs hlen hone hrel ih =>
    refine .agg cells fun x hx => ?_
    obtain ⟨i, hi⟩ := mem_get hx
    have hlt : i < vs.size := by rw [hlen]; exact (List.getElem?_eq_some_iff.1 hi).1
    exact ih i x _ hi (Array.getElem?_eq_getElem hlt)
  | tuple cells vs hlen hrel ih =>
    refine .tuple cells fun x hx => ?_
    obtain ⟨i, hi⟩ := mem_get hx
    have hlt : i < vs.size := by rw [hlen]; exact (List.getElem?_eq_some_iff.1 hi).1
    exact ih i x _ hi (Array.getElem?_eq_getElem hlt)
  | func fn first captured vs us hlen hlen' hrel hrel' ih ih' =>
    refine .func fn first captured (fun x hx => ?_) (fun x hx => ?_)
    · obtain ⟨i, hi⟩ := mem_get hx
      have hlt : i < vs.size := by rw [hlen]; exact (List.getElem?_eq_some_iff.1 hi).1
      exact ih i x _ hi (Array.getElem?_eq_getElem hlt)
    · obtain ⟨i, hi⟩ := mem_get hx
      have hlt : i < us.size := by rw [hlen']; exact (List.getElem?_eq_some_iff.1 hi).1
      exact ih' i x _ hi (Array.getElem?_eq_getElem hlt)
  | nilFunc => exact .nilFunc
  | iface t x v h ih => exact .iface t x ih
  | nilIface => exact .nilIface
  | nilmap => exact .nilmap
  | mapv id r hok => exact .mapv _ trivial

theorem Frz.ref0 {h : Heap} {S : Nat → Prop} {id sz base len : Nat} {ex : Bool} {c esz : Nat} {rows : List (List AVal)} (hS : S id) (hl : lk h id = some (.arr esz rows)) (hsz : rows.length = sz) (hb : base + len ≤ sz) :
    Frz h S (.ref id sz base len ex c) (.sl ((rows.drop base).take len) none) := by
  have hg : ∀ (i : Nat) r, ((rows.drop base).take len)[i]? = some r → rows[base + i]? = some r := fun i r hi => by
    rw [List.getElem?_take] at hi
    split at hi
    · rwa [List.getElem?_drop] at hi
    · cases hi
  refine .ref id sz base len ex c esz rows _ none hS hl hsz (by simp; omega) (.inl rfl) (fun i r r' h1 h2 => ?_) (fun i r r' j x x' h1 h2 h3 h4 => ?_)
  · rw [hg i r' h2] at h1; injection h1 with h1; rw [h1]
  · rw [hg i r' h2] at h1; injection h1 with h1; subst h1
    rw [h3] at h4; injection h4 with h4; subst h4
    exact .refl _

section
variable {ext : Nat → Prop} {β : Nat → Option Nat} {p : Nat → Prop} {h : Heap} {w : World}

theorem Frz.rel (hin : HIn ext β p h w) {S : Nat → Prop} {ext' : Nat → Prop} (hext : ∀ b, ext' b → ext b ∨ owns β h b) (hS : ∀ id o b, S id → lk h id = some o → β id = some b → ¬ ext' b) {x y : AVal} (f : Frz h S x y) :
    ∀ (v : Value), VRel (cx ext β h w) x v → VRel (cx ext' (fun _ => none) [] w) y v := by
  have hno : ∀ b, ¬ owns (fun _ => none) [] b := fun b ⟨_, _, h1, _⟩ => by simp [lk] at h1
  have st : Step (fun _ => True) (cx ext β h w) (cx ext' (fun _ => none) [] w) :=
    { cell := fun b o v h1 h2 => ⟨fun h3 => h1 (hext b (h3.resolve_right (hno b))), h2⟩
      shape := fun _ _ h => h
      arr := fun id _ esz rows h1 => by simp [cx, lk] at h1
      mp := fun id _ es h1 => by simp [cx, lk] at h1 }
  induction f with
  | refl x =>
    intro v hv
    exact hv.step st hv.nm_true
  | ref id sz base len ex c esz rows rows' lim hSid hl hsz hlen hlim hrow hrel ih =>
    intro v hv
    cases hv with | ref _ _ _ _ _ _ a cap hcap hlo hex hok =>
    obtain ⟨_, h2⟩ := hok esz rows hl
    obtain ⟨h3, h4⟩ := h2 hsz.symm
    obtain ⟨hrows, hblk⟩ := hin.ob id _ hl
    subst hlen
    have hlim' : ∀ l, lim = some l → cap = l := fun l hl' => by
      rcases hlim with h5 | ⟨h5, h6⟩
      · rw [h5] at hl'; cases hl'
      · rw [h6] at hl'; injection hl' with hl'; rw [← hl']; exact hex h5
    rcases h4 with h0 | ⟨b, hb, ha, e, n, hsh, hn⟩
    · have h00 : rows'.length = 0 := by omega
      have hnil : rows' = [] := List.length_eq_zero_iff.1 h00
      subst hnil
      exact .sl [] lim a cap 0 0 0 (fun _ _ => .nilFunc) (by simp) hlim' (by simp) (by simp) (by simp) (by simp)
    · have hb' : (cx ext β h w).β id = some b := hb
      rw [hb'] at hblk
      obtain ⟨cs, e', h5, h6, h7⟩ := hblk
      have h5' : w.heap[b]? = some (.cells cs e' (0, 0)) := h5
      have hlt : ∀ (i : Nat) r', rows'[i]? = some r' → ∃ r, rows[base + i]? = some r := fun i r' hi => by
        have := (List.getElem?_eq_some_iff.1 hi).1
        exact ⟨rows[base + i]'(by omega), List.getElem?_eq_getElem _⟩
      have hcellv : ∀ (i : Nat) r' (j : Nat) x', rows'[i]? = some r' → r'[j]? = some x' → ∃ r x v, rows[base + i]? = some r ∧ r[j]? = some x ∧ cs[(base + i) * esz + j]? = some v ∧ v.oneCell' = true ∧ VRel (cx ext β h w) x v := fun i r' j x' hi hj => by
        obtain ⟨r, hr⟩ := hlt i r' hi
        have hjl : j < r.length := by rw [← hrow i r r' hr hi]; exact (List.getElem?_eq_some_iff.1 hj).1
        obtain ⟨v, h8, h9, h10⟩ := h7 (base + i) r j r[j] hr (List.getElem?_eq_getElem hjl)
        exact ⟨r, r[j], v, hr, List.getElem?_eq_getElem hjl, h8, h9, h10⟩
      refine .sl rows' lim a cap esz b (base * esz) (fun i j => (cs[(base + i) * esz + j]?).getD undef) hcap hlim' (fun r' hr' => ?_) (fun _ => ha) (fun i r' j x' hi hj => ?_) (fun i r' j x' hi hj => ?_)
      · obtain ⟨i, hi⟩ := List.getElem?_of_mem hr'
        obtain ⟨r, hr⟩ := hlt i r' hi
        rw [hrow i r r' hr hi]
        exact hrows r (List.mem_of_getElem? hr)
      · obtain ⟨r, x, v, h8, h9, h10, h11, h12⟩ := hcellv i r' j x' hi hj
        refine ⟨fun h13 => hS id _ b hSid hl hb (h13.resolve_right (hno b)), ?_, ?_⟩
        · show w.cell? ⟨b, base * esz + (i * esz + j), none⟩ = some _
          have e1 : base * esz + (i * esz + j) = (base + i) * esz + j := by rw [Nat.add_mul]; omega
          simp only [World.cell?, h5', e1, h10]
          rfl
        · rw [h10]; exact h11
      · obtain ⟨r, x, v, h8, h9, h10, h11, h12⟩ := hcellv i r' j x' hi hj
        rw [h10]
        exact ih i r r' j x x' h8 hi h9 hj _ h12
  | ptr id sz row col esz rows r cells hSid hl hsz hr hlen hrel ih =>
    intro v hv
    cases hv with | ptr _ _ _ _ ad hok =>
    obtain ⟨_, h2⟩ := hok esz rows hl
    obtain ⟨b, hb, rfl⟩ := h2 hsz.symm
    obtain ⟨hrows, hblk⟩ := hin.ob id _ hl
    have hb' : (cx ext β h w).β id = some b := hb
    rw [hb'] at hblk
    obtain ⟨cs, e', h5, h6, h7⟩ := hblk
    have h5' : w.heap[b]? = some (.cells cs e' (0, 0)) := h5
    have hcellv : ∀ (j : Nat) x', cells[j]? = some x' → ∃ x v, r[col + j]? = some x ∧ cs[row * esz + (col + j)]? = some v ∧ v.oneCell' = true ∧ VRel (cx ext β h w) x v := fun j x' hj => by
      have hjl : col + j < r.length := by have := (List.getElem?_eq_some_iff.1 hj).1; omega
      obtain ⟨v, h8, h9, h10⟩ := h7 row r (col + j) r[col + j] hr (List.getElem?_eq_getElem hjl)
      exact ⟨r[col + j], v, List.getElem?_eq_getElem hjl, h8, h9, h10⟩
    refine .fp cells b (row * esz + col) (fun j => (cs[row * esz + (col + j)]?).getD undef) (fun j x' hj => ?_) (fun j x' hj => ?_)
    · obtain ⟨x, v, h8, h10, h11, h12⟩ := hcellv j x' hj
      refine ⟨fun h13 => hS id _ b hSid hl hb (h13.resolve_right (hno b)), ?_, ?_⟩
      · show w.cell? ⟨b, row * esz + col + j, none⟩ = some _
        simp only [World.cell?, h5', Nat.add_assoc, h10]
        rfl
      · rw [h10]; exact h11
    · obtain ⟨x, v, h8, h10, h11, h12⟩ := hcellv j x' hj
      rw [h10]
      exact ih j x x' h8 hj _ h12
  | agg xs ys hlen hrel ih =>
    intro v hv
    cases hv with | agg _ vs l o r =>
    refine .agg ys vs (by rw [l, hlen]) o fun i y u hy hu => ?_
    have hlt : i < xs.length := by rw [← hlen]; exact (List.getElem?_eq_some_iff.1 hy).1
    exact ih i xs[i] y (List.getElem?_eq_getElem hlt) hy _ (r i _ u (List.getElem?_eq_getElem hlt) hu)
  | tuple xs ys hlen hrel ih =>
    intro v hv
    cases hv with | tuple _ vs l r =>
    refine .tuple ys vs (by rw [l, hlen]) fun i y u hy hu => ?_
    have hlt : i < xs.length := by rw [← hlen]; exact (List.getElem?_eq_some_iff.1 hy).1
    exact ih i xs[i] y (List.getElem?_eq_getElem hlt) hy _ (r i _ u (List.getElem?_eq_getElem hlt) hu)
  | func fn xs ys us vs hlen hlen' hrel hrel' ih ih' =>
    intro v hv
    cases hv with | func _ _ _ f1 f2 l l' r r' =>
    refine .func fn ys vs f1 f2 (by rw [l, hlen]) (by rw [l', hlen']) (fun i y u hy hu => ?_) (fun i y u hy hu => ?_)
    · have hlt : i < xs.length := by rw [← hlen]; exact (List.getElem?_eq_some_iff.1 hy).1
      exact ih i xs[i] y (List.getElem?_eq_getElem hlt) hy _ (r i _ u (List.getElem?_eq_getElem hlt) hu)
    · have hlt : i < us.length := by rw [← hlen']; exact (List.getElem?_eq_some_iff.1 hy).1
      exact ih' i us[i] y (List.getElem?_eq_getElem hlt) hy _ (r' i _ u (List.getElem?_eq_getElem hlt) hu)
  | iface t x y hrel ih =>
    intro v hv
    cases hv with | iface _ _ u hu =>
    exact .iface t y u (ih u hu)
  | sl rows rows' lim hlen hrow hrel ih =>
    intro v hv
    cases hv with | sl _ _ a cap esz blk off vals hcap hlim hr ha hcell hrel' =>
    have hg : ∀ (i : Nat) r', rows'[i]? = some r' → ∃ r, rows[i]? = some r ∧ r'.length = r.length := fun i r' hi => by
      have hlt : i < rows.length := by rw [← hlen]; exact (List.getElem?_eq_some_iff.1 hi).1
      exact ⟨rows[i], List.getElem?_eq_getElem hlt, hrow i _ r' (List.getElem?_eq_getElem hlt) hi⟩
    have hx : ∀ (i : Nat) r' (j : Nat) x', rows'[i]? = some r' → r'[j]? = some x' → ∃ r x, rows[i]? = some r ∧ r[j]? = some x := fun i r' j x' hi hj => by
      obtain ⟨r, h1, h2⟩ := hg i r' hi
      have hlt : j < r.length := by rw [← h2]; exact (List.getElem?_eq_some_iff.1 hj).1
      exact ⟨r, r[j], h1, List.getElem?_eq_getElem hlt⟩
    rw [← hlen]
    refine .sl rows' none a cap esz blk off vals (by omega) (fun l hl => by cases hl) (fun r' hr' => ?_) (fun hne => ha ?_) (fun i r' j x' hi hj => ?_) (fun i r' j x' hi hj => ?_)
    · obtain ⟨i, hi⟩ := mem_get hr'
      obtain ⟨r, h1, h2⟩ := hg i r' hi
      rw [h2]
      exact hr r (List.mem_of_getElem? h1)
    · intro h0
      subst h0
      exact hne (List.length_eq_zero_iff.1 hlen)
    · obtain ⟨r, x, h1, h2⟩ := hx i r' j x' hi hj
      obtain ⟨h3, h4, h5⟩ := hcell i r j x h1 h2
      exact ⟨(st.cell _ _ _ h3 h4).1, h4, h5⟩
    · obtain ⟨r, x, h1, h2⟩ := hx i r' j x' hi hj
      exact ih i r r' j x x' h1 hi h2 hj _ (hrel' i r j x h1 h2)

end
end Go.AM
