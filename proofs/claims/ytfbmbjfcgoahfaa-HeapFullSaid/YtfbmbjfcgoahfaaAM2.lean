/-
  AM, part 2: abstract states, and the rules by which code is gone through over them.
-/
import Derived.Test.YtfbmbjfcgoahfaaAM1
namespace Go.AM
open Go

structure St where
  tmps : List AVal
  h : Heap
  nx : Nat

/-- The number of an object that is there. -/
abbrev Lt (n : Nat) : Nat → Prop := fun i => i < n

/-- The slots and the world are as an abstract state says, whose objects' numbers are among 'p'. -/
structure SInP (n0 : Nat) (ext : Nat → Prop) (β : Nat → Option Nat) (p : Nat → Prop) (tmps : List AVal) (h : Heap) (a : Act) (w : World) : Prop where
  heap : HIn ext β p h w
  size : a.tmps.size = tmps.length
  rel : ∀ (i : Nat) x v, tmps[i]? = some x → a.tmps[i]? = some v → VRel (cx ext β h w) x v
  nm : ∀ x, x ∈ tmps → Nm p x
  defers : a.defers = []
  low : ∀ i, i < n0 → p i

abbrev SIn (n0 : Nat) (ext : Nat → Prop) (β : Nat → Option Nat) (s : St) (a : Act) (w : World) : Prop := SInP n0 ext β (Lt s.nx) s.tmps s.h a w

/-- How one gets from one state to another one. -/
structure Goes (n0 : Nat) (ext : Nat → Prop) (β : Nat → Option Nat) (h : Heap) (w : World) (β' : Nat → Option Nat) (h' : Heap) (w' : World) : Prop where
  evo : Evo (owns β h) w (owns β' h') w'
  step : Step (Lt n0) (cx ext β h w) (cx ext β' h' w')

theorem Step.refl (p : Nat → Prop) (c : Cx) : Step p c c :=
  ⟨fun _ _ _ h1 h2 => ⟨h1, h2⟩, fun _ _ h => h, fun _ _ _ rows h => ⟨rows, h, Nat.le_refl _, fun _ => rfl⟩, fun _ _ es h => ⟨es, h, rfl⟩⟩

theorem Step.trans {p : Nat → Prop} {c d e : Cx} (h : Step p c d) (h' : Step p d e) : Step p c e where
  cell b o v h1 h2 := let ⟨h3, h4⟩ := h.cell b o v h1 h2; h'.cell b o v h3 h4
  shape b x hx := h'.shape b x (h.shape b x hx)
  arr id hid esz rows hr := by
    obtain ⟨r1, h1, h2, h3⟩ := h'.arr id hid esz rows hr
    obtain ⟨r2, h4, h5, h6⟩ := h.arr id hid esz r1 h1
    exact ⟨r2, h4, Nat.le_trans h5 h2, fun e => (h3 (by omega)).trans (h6 (by omega))⟩
  mp id hid es hr := by
    obtain ⟨r1, h1, h2⟩ := h'.mp id hid es hr
    obtain ⟨r2, h4, h5⟩ := h.mp id hid r1 h1
    exact ⟨r2, h4, h2.trans h5⟩

theorem Step.weaken {p q : Nat → Prop} {c d : Cx} (h : Step p c d) (hq : ∀ i, q i → p i) : Step q c d :=
  ⟨h.cell, h.shape, fun id hid => h.arr id (hq id hid), fun id hid => h.mp id (hq id hid)⟩

theorem Goes.refl (n0 : Nat) (ext : Nat → Prop) (β : Nat → Option Nat) (h : Heap) (w : World) : Goes n0 ext β h w β h w := ⟨Evo.refl _ _, Step.refl _ _⟩

theorem Goes.trans {n0 : Nat} {ext : Nat → Prop} {β1 β2 β3 : Nat → Option Nat} {h1 h2 h3 : Heap} {w1 w2 w3 : World}
    (a : Goes n0 ext β1 h1 w1 β2 h2 w2) (b : Goes n0 ext β2 h2 w2 β3 h3 w3) : Goes n0 ext β1 h1 w1 β3 h3 w3 := ⟨a.evo.trans b.evo, a.step.trans b.step⟩

def Post (n0 : Nat) (ext : Nat → Prop) (β : Nat → Option Nat) (h : Heap) (w : World) (Q : Exit → St → Prop) : Exit → Act → World → Prop :=
  fun e a' w' => ∃ β' s', Q e s' ∧ SIn n0 ext β' s' a' w' ∧ Goes n0 ext β h w β' s'.h w'

/-- Code that is gone through from an abstract state ends as 'Q' says. -/
def AWP (P : Program) (n0 : Nat) (c : Code) (Q : Exit → St → Prop) (s : St) : Prop :=
  ∀ ext β a w, SIn n0 ext β s a w → c.wp P (Post n0 ext β s.h w Q) a w

theorem Post.after {n0 : Nat} {ext : Nat → Prop} {β β1 : Nat → Option Nat} {h h1 : Heap} {w w1 : World} {Q : Exit → St → Prop} {e : Exit} {a : Act} {w2 : World}
    (g : Goes n0 ext β h w β1 h1 w1) (p : Post n0 ext β1 h1 w1 Q e a w2) : Post n0 ext β h w Q e a w2 :=
  let ⟨β', s', q, i, g'⟩ := p; ⟨β', s', q, i, g.trans g'⟩

section rules
variable {P : Program} {n0 : Nat} {Q : Exit → St → Prop} {s : St}

theorem AWP.mono {c : Code} {Q' : Exit → St → Prop} (h : AWP P n0 c Q s) (hq : ∀ e s, Q e s → Q' e s) : AWP P n0 c Q' s :=
  fun ext β a w i => wp_mono (h ext β a w i) fun _ _ _ ⟨β', s', q, r⟩ => ⟨β', s', hq _ _ q, r⟩

theorem AWP_skip (h : Q .normal s) : AWP P n0 .skip Q s := fun ext β _ w i => wp_skip ⟨β, s, h, i, Goes.refl _ ext β s.h w⟩

theorem AWP_exit {id : Nat} (h : Q (.exit id) s) : AWP P n0 (.exit id) Q s := fun ext β _ w i => wp_exit ⟨β, s, h, i, Goes.refl _ ext β s.h w⟩

theorem AWP_ret (h : Q .ret s) : AWP P n0 .ret Q s := fun ext β _ w i => wp_ret ⟨β, s, h, i, Goes.refl _ ext β s.h w⟩

def thenQ (K : St → Prop) (Q : Exit → St → Prop) : Exit → St → Prop
  | .normal, s => K s
  | e, s => Q e s

theorem AWP_seq {x y : Code} (h : AWP P n0 x (thenQ (AWP P n0 y Q) Q) s) : AWP P n0 (x.seq y) Q s := by
  intro ext β a w i
  refine wp_seq (wp_mono (h ext β a w i) ?_)
  rintro e a' w' ⟨β', s', q, i', g⟩
  cases e with
  | normal => exact wp_mono (q ext β' a' w' i') fun _ _ _ p => p.after g
  | exit id => exact ⟨β', s', q, i', g⟩
  | goto l => exact ⟨β', s', q, i', g⟩
  | ret => exact ⟨β', s', q, i', g⟩
  | panic c => exact ⟨β', s', q, i', g⟩
  | outgrown => exact ⟨β', s', q, i', g⟩

def blockQ (id : Nat) (Q : Exit → St → Prop) : Exit → St → Prop
  | .exit id', s => if id' = id then Q .normal s else Q (.exit id') s
  | e, s => Q e s

theorem AWP_block {id : Nat} {c : Code} (h : AWP P n0 c (blockQ id Q) s) : AWP P n0 (.block id c) Q s := by
  intro ext β a w i
  refine wp_block (wp_mono (h ext β a w i) ?_)
  rintro e a' w' ⟨β', s', q, i', g⟩
  cases e with
  | exit id' =>
    simp only [blockQ] at q
    simp only [Exit.inBlock]
    by_cases hid : id' = id
    · rw [if_pos hid] at q ⊢; exact ⟨β', s', q, i', g⟩
    · rw [if_neg hid] at q ⊢; exact ⟨β', s', q, i', g⟩
  | normal => exact ⟨β', s', q, i', g⟩
  | goto l => exact ⟨β', s', q, i', g⟩
  | ret => exact ⟨β', s', q, i', g⟩
  | panic c => exact ⟨β', s', q, i', g⟩
  | outgrown => exact ⟨β', s', q, i', g⟩

/-- A loop of the machine, by a number that falls. -/
theorem wp_loop_n {c : Code} {R : Exit → Act → World → Prop} (I : Nat → Act → World → Prop)
    (round : ∀ n a w, I n a w → c.wp P (Exit.then (fun a' w' => ∃ m, m < n ∧ I m a' w') R) a w) : ∀ n a w, I n a w → (Code.loop c).wp P R a w := by
  intro n₀ a₀ w₀ h₀ b k cs
  have key : ∀ n a w, I n a w → ∃ e a' w', R e a' w' ∧ Arrives P (lone (b.at a (.code c :: .inLoop c :: k)) cs w) b k cs e a' w' := by
    intro n
    induction n using Nat.strongRecOn with
    | _ n ih =>
      intro a w hI
      obtain ⟨e, a₁, w₁, hq, harr⟩ := round n a w hI b (.inLoop c :: k) cs
      cases e with
      | normal =>
        obtain ⟨m, hlt, hI₁⟩ := hq
        obtain ⟨e₂, a₂, w₂, hq₂, harr₂⟩ := ih m hlt a₁ w₁ hI₁
        exact ⟨e₂, a₂, w₂, hq₂, .of_steps (Steps.trans harr (.one step_inLoop)) harr₂⟩
      | exit id => exact ⟨_, a₁, w₁, hq, .pass (x := .inLoop c) rfl (fun _ _ => .inl (by simp)) harr⟩
      | goto l => exact ⟨_, a₁, w₁, hq, .pass (x := .inLoop c) rfl (fun _ _ => .inl (by simp)) harr⟩
      | ret => exact ⟨_, a₁, w₁, hq, .pass (x := .inLoop c) rfl (fun _ _ => .inl (by simp)) harr⟩
      | panic ch => exact ⟨_, a₁, w₁, hq, .pass (x := .inLoop c) rfl (fun _ _ => .inl (by simp)) harr⟩
      | outgrown => exact ⟨_, a₁, w₁, hq, .pass (x := .inLoop c) rfl (fun _ _ => .inl (by simp)) harr⟩
  obtain ⟨e, a', w', hq, harr⟩ := key n₀ a₀ w₀ h₀
  exact ⟨e, a', w', hq, .of_steps (.one step_loop) harr⟩

/-- A state says no more than another one: fewer slots are known, fewer objects are there. -/
structure Weak (n0 : Nat) (s s' : St) : Prop where
  len : s'.tmps.length = s.tmps.length
  tmps : ∀ (i : Nat) x', s'.tmps[i]? = some x' → x' = .junk ∨ s.tmps[i]? = some x'
  heap : ∀ id o, lk s'.h id = some o → lk s.h id = some o
  nm : ∀ x, x ∈ s'.tmps → Nm (Lt s'.nx) x
  nmh : ∀ id o, lk s'.h id = some o → id < s'.nx ∧ o.nm (Lt s'.nx)
  low : n0 ≤ s'.nx

theorem ObIn.step {p : Nat → Prop} {c d : Cx} (st : Step p c d) {id : Nat} {o : Ob} (hβ : d.β id = c.β id) (hh : ∀ b, c.β id = some b → d.w.heap[b]? = c.w.heap[b]?)
    (hn : o.nm p) (h : ObIn c id o) : ObIn d id o := by
  cases o with
  | arr esz rows =>
    obtain ⟨h1, h2⟩ := h
    refine ⟨h1, ?_⟩
    rw [hβ]
    cases hb : c.β id with
    | none => simpa [hb] using h2
    | some b =>
      simp only [hb] at h2 ⊢
      obtain ⟨cs, e, h3, h4, h5⟩ := h2
      refine ⟨cs, e, (hh b hb).trans h3, h4, fun i r j x hr hx => ?_⟩
      obtain ⟨v, hv, h1', hr'⟩ := h5 i r j x hr hx
      exact ⟨v, hv, h1', hr'.step st (hn r (List.mem_of_getElem? hr) x (List.mem_of_getElem? hx))⟩
  | mp es =>
    obtain ⟨b, ms, h1, h2, h3, h4⟩ := h
    refine ⟨b, ms, hβ.trans h1, (hh b h1).trans h2, h3, fun i k v n m hk hm => ?_⟩
    obtain ⟨h5, h6, h7⟩ := h4 i k v n m hk hm
    have := hn _ (List.mem_of_getElem? hk)
    exact ⟨h5.step st this.1, h6.step st this.2, h7⟩

theorem SIn.weak {ext : Nat → Prop} {β : Nat → Option Nat} {s' : St} {a : Act} {w : World} (i : SIn n0 ext β s a w) (k : Weak n0 s s') :
    SIn n0 ext β s' a w ∧ Goes n0 ext β s.h w β s'.h w := by
  have hown : ∀ b, owns β s'.h b → owns β s.h b := fun b ⟨id, o, h1, h2⟩ => ⟨id, o, k.heap id o h1, h2⟩
  have st : ∀ p, Step p (cx ext β s.h w) (cx ext β s'.h w) := fun p =>
    { cell := fun b o v h1 h2 => ⟨fun h => h1 (h.imp id (hown b)), h2⟩
      shape := fun _ _ h => h
      arr := fun id _ esz rows h => ⟨rows, k.heap _ _ h, Nat.le_refl _, fun _ => rfl⟩
      mp := fun id _ es h => ⟨es, k.heap _ _ h, rfl⟩ }
  refine ⟨⟨⟨fun id o ho => ?_, k.nmh, fun id id' o o' b h1 h2 => i.heap.inj id id' o o' b (k.heap _ _ h1) (k.heap _ _ h2), fun b hb => ?_⟩, ?_, ?_, k.nm, i.defers, fun j hj => Nat.lt_of_lt_of_le hj k.low⟩,
    ⟨⟨Nat.le_refl _, fun _ _ _ => rfl, fun b _ h => hown b h, fun _ _ h => h, rfl, rfl, rfl⟩, st _⟩⟩
  · have h1 := i.heap.ob id o (k.heap id o ho)
    exact ObIn.step (st (Lt s'.nx)) rfl (fun _ _ => rfl) (k.nmh id o ho).2 h1
  · exact ⟨(i.heap.ext b hb).1, fun h => (i.heap.ext b hb).2 (hown b h)⟩
  · rw [i.size, k.len]
  · intro j x v hx hv
    rcases k.tmps j x hx with rfl | h
    · exact .junk v
    · exact (i.rel j x v h hv).step (st (Lt s'.nx)) (k.nm x (List.mem_of_getElem? hx))

theorem AWP_weak {c : Code} (s' : St) (k : Weak n0 s s') (h : AWP P n0 c Q s') : AWP P n0 c Q s := by
  intro ext β a w i
  obtain ⟨i', g⟩ := i.weak k
  exact wp_mono (h ext β a w i') fun _ _ _ p => p.after g

/-- A loop over abstract states. -/
theorem AWP_loop {c : Code} (I : Nat → St → Prop) (n : Nat) (h0 : I n s)
    (round : ∀ n s, I n s → AWP P n0 c (thenQ (fun s' => ∃ m, m < n ∧ ∃ s'', I m s'' ∧ Weak n0 s' s'') Q) s) : AWP P n0 (.loop c) Q s := by
  intro ext β a w i
  refine wp_loop_n (P := P) (fun m a' w' => ∃ β' s', I m s' ∧ SIn n0 ext β' s' a' w' ∧ Goes n0 ext β s.h w β' s'.h w') ?_ n a w ⟨β, s, h0, i, Goes.refl _ _ _ _ _⟩
  rintro m a' w' ⟨β', s', hI, i', g⟩
  refine wp_mono (round m s' hI ext β' a' w' i') ?_
  rintro e a2 w2 ⟨β2, s2, q, i2, g2⟩
  cases e with
  | normal =>
    obtain ⟨m', hm, s3, hI3, k⟩ := q
    obtain ⟨i3, g3⟩ := i2.weak k
    exact ⟨m', hm, β2, s3, hI3, i3, (g.trans g2).trans g3⟩
  | exit id => exact ⟨β2, s2, q, i2, g.trans g2⟩
  | goto l => exact ⟨β2, s2, q, i2, g.trans g2⟩
  | ret => exact ⟨β2, s2, q, i2, g.trans g2⟩
  | panic ch => exact ⟨β2, s2, q, i2, g.trans g2⟩
  | outgrown => exact ⟨β2, s2, q, i2, g.trans g2⟩

end rules

/-- A constant's abstract value. -/
def ofC : Value → AVal
  | .bool b => .bool b
  | .int k n => .int k n
  | .string s => .str s
  | .pointer none => .nilp
  | .slice none 0 0 => .sl [] (some 0)
  | .nilFunc => .nilFunc
  | .nilIface => .nilIface
  | .map none => .nilmap
  | .func fn vs us => if vs.size = 0 then (if us.size = 0 then .func fn [] [] else .junk) else .junk
  | _ => .junk

def ofV : Value → AVal
  | .agg cs => if cs.toList.all Value.oneCell' then .agg (cs.toList.map ofC) else .junk
  | v => ofC v

theorem VRel_ofC (c : Cx) (v : Value) : VRel c (ofC v) v := by
  unfold ofC
  split
  · exact .bool _
  · exact .int _ _
  · exact .str _
  · exact .nilp
  · exact .sl [] (some 0) none 0 0 0 0 (fun _ _ => .nilFunc) (by simp) (by simp) (by simp) (by simp) (by simp) (by simp)
  · exact .nilFunc
  · exact .nilIface
  · exact .nilmap
  · rename_i fn vs us
    split
    · rename_i h1
      split
      · rename_i h2
        exact .func fn [] [] vs us (by simpa using h1) (by simpa using h2) (by simp) (by simp)
      · exact .junk _
    · exact .junk _
  · exact .junk _

theorem VRel_ofV (c : Cx) (v : Value) : VRel c (ofV v) v := by
  unfold ofV
  split
  · rename_i cs
    split
    case isFalse => exact .junk _
    rename_i hall
    refine .agg _ cs (by simp) (fun i v hv => List.all_eq_true.1 hall v (by have := Array.mem_of_getElem? hv; simpa using this)) fun i x v h1 h2 => ?_
    have : cs.toList[i]? = some v := by simpa using h2
    rw [List.getElem?_map, this] at h1
    injection h1 with h1
    exact h1 ▸ VRel_ofC c v
  · exact VRel_ofC c _

theorem Fz_ofC (v : Value) : Fz (ofC v) := by
  unfold ofC
  split
  · exact .bool _
  · exact .int _ _
  · exact .str _
  · exact .nilp
  · exact .sl _ _ (by simp)
  · exact .nilFunc
  · exact .nilIface
  · exact .nilmap
  · split
    · split
      · exact .func _ _ _ (by simp) (by simp)
      · exact .junk
    · exact .junk
  · exact .junk

theorem Fz_ofV (v : Value) : Fz (ofV v) := by
  unfold ofV
  split
  · split
    case isFalse => exact .junk
    refine .agg _ fun x hx => ?_
    obtain ⟨y, _, rfl⟩ := List.mem_map.1 hx
    exact Fz_ofC y
  · exact Fz_ofC _

/-- An operand's abstract value. -/
def ev (tmps : List AVal) : Operand → AVal
  | .tmp t => tmps.getD t .junk
  | .const v => ofV v
  | .global _ => .junk
  | .func f => .func (.func f) [] []

theorem SInP.ev {n0 : Nat} {ext : Nat → Prop} {β : Nat → Option Nat} {p : Nat → Prop} {tmps : List AVal} {h : Heap} {a : Act} {w : World} (i : SInP n0 ext β p tmps h a w) (o : Operand) :
    VRel (cx ext β h w) (ev tmps o) (a.eval o) := by
  cases o with
  | tmp t =>
    simp only [AM.ev, Act.eval]
    rw [List.getD_eq_getElem?_getD, Array.getD_eq_getD_getElem?]
    cases hx : tmps[t]? with
    | none => exact .junk _
    | some x =>
      have ht : t < a.tmps.size := by rw [i.size]; exact (List.getElem?_eq_some_iff.1 hx).1
      have := i.rel t x a.tmps[t] hx (Array.getElem?_eq_getElem ht)
      simpa [Array.getElem?_eq_getElem ht] using this
  | const v => exact VRel_ofV _ v
  | global g => exact .junk _
  | func f => exact .func _ [] [] #[] #[] rfl rfl (by simp) (by simp)

theorem SInP.nm_ev {n0 : Nat} {ext : Nat → Prop} {β : Nat → Option Nat} {p : Nat → Prop} {tmps : List AVal} {h : Heap} {a : Act} {w : World} (i : SInP n0 ext β p tmps h a w) (o : Operand) :
    Nm p (AM.ev tmps o) := by
  cases o with
  | tmp t =>
    simp only [AM.ev]
    rw [List.getD_eq_getElem?_getD]
    cases hx : tmps[t]? with
    | none => exact .junk
    | some x => exact i.nm x (List.mem_of_getElem? hx)
  | const v => exact Fz.nm (Fz_ofV v) p
  | global g => exact .junk
  | func f => exact .func _ _ _ (by simp) (by simp)

theorem AWP_cond {P : Program} {n0 : Nat} {Q : Exit → St → Prop} {s : St} {c : Operand} {x y : Code} {b : Bool} (hc : ev s.tmps c = .bool b)
    (h1 : b = true → AWP P n0 x Q s) (h2 : b = false → AWP P n0 y Q s) : AWP P n0 (.cond c x y) Q s := by
  intro ext β a w i
  have hv := i.ev c
  rw [hc] at hv
  generalize hz : a.eval c = v at hv
  cases hv
  cases b with
  | true => exact wp_cond_true hz (h1 rfl ext β a w i)
  | false => exact wp_cond_false hz (h2 rfl ext β a w i)

end Go.AM
