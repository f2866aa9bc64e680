/-
  AM, merged: 49 50 51 52.
-/
import Derived.Test.YtdgjelfeclgolaaAMD
import Derived.SizedLaws
import Derived.Test.YtdgjelfeclgolaaAME

section
set_option linter.unusedVariables false
namespace Go.AM
open Go

variable {P : Program} {w : World} {H : Type} {enc : TypeId × Value → H} {base : Nat} {spare : Nat → Bool} {held : Bool}

theorem trod_slice_le {t e : TypeId} (ht : P.underlying t = some (.slice e)) {a : Option Addr} {len cap : Nat} {d : DataW H} {ps : List MemPlace} (h : DataW.Trod enc P w base spare held t (.slice a len cap) d ps) :
    len = 0 ∨ ∃ elems sp, d = .slice elems sp ∧ elems.length = len := by
  obtain ⟨fuel, h⟩ := h
  cases fuel with
  | zero => simp [DataW.trod] at h
  | succ fuel =>
    have hc : (Value.slice a len cap).cells.toList = [.slice a len cap] := rfl
    rw [hc] at h
    cases a with
    | none =>
      cases len with
      | zero => exact .inl rfl
      | succ n => simp [DataW.trod, ht] at h
    | some a =>
      simp only [DataW.trod, ht] at h
      split at h
      case isFalse => cases h
      rw [Option.bind_eq_some_iff] at h
      obtain ⟨elems, he, h⟩ := h
      obtain ⟨rest, _, h⟩ := Option.map_eq_some_iff.1 h
      injection h with h1 h2
      have := mapM_some_length he
      simp at this
      exact .inr ⟨_, _, h1.symm, by simp; omega⟩

/-- The length of a list that is handed in, times the size of what it is of, is within a machine's reach. -/
theorem slice_reach {ts : List TypeId} {ds : List (DataW H)} (hsz : (DataW.weightsEach P ts ds).all (· ≤ reachBytes) = true) {j : Nat} {t e : TypeId} (hj : ts[j]? = some t) {a : Option Addr} {len cap : Nat} {d : DataW H} {ps : List MemPlace} (hd : ds[j]? = some d) (ht : P.underlying t = some (.slice e))
    (h : DataW.Trod enc P w base spare held t (.slice a len cap) d ps) {c : Cx} {α : Type} [Enc α] {l : List α} (hr : VRel c (.sl (rws l) Option.none) (.slice a len cap)) : l.length * P.bytesOf e ≤ 140737488351232 := by
  have hl : l.length = len := by
    cases hr
    exact (rws_length l).symm
  rcases trod_slice_le ht h with h0 | ⟨elems, sp, rfl, h1⟩
  · rw [hl, h0]
    simp
  · have h2 := sized_slice hsz hj hd ht
    have h3 : elems.length * P.bytesOf e ≤ (elems.length + sp.length) * P.bytesOf e := Nat.mul_le_mul_right _ (by omega)
    have h4 : reachBytes = 140737488351232 := rfl
    rw [hl, ← h1]
    omega

end Go.AM
end

section
set_option linter.unusedVariables false
namespace Go.AM
open Go

/-! ### Setting and looking up -/

theorem hset_same {i : Nat} {o q : Ob} : ∀ h : Heap, hset (hset h i o) i q = hset h i q
  | [] => rfl
  | (j, x) :: h => by
    simp only [hset]
    by_cases e : j = i
    · simp [hset, e]
    · simp only [if_neg e, hset]
      rw [hset_same h]

theorem hset_comm {i j : Nat} {o q : Ob} (hne : ¬ i = j) : ∀ h : Heap, hset (hset h i o) j q = hset (hset h j q) i o
  | [] => rfl
  | (k, x) :: h => by
    simp only [hset]
    by_cases e1 : k = i
    · subst e1
      simp [hset, hne]
    · by_cases e2 : k = j
      · subst e2
        simp [hset, e1]
      · simp only [if_neg e1, if_neg e2, hset]
        rw [hset_comm hne h]

theorem lk_set_ne {i j : Nat} {o : Ob} (hne : ¬ j = i) : ∀ h : Heap, lk (hset h i o) j = lk h j
  | [] => rfl
  | (k, x) :: h => by
    simp only [hset]
    by_cases e1 : k = i
    · subst e1
      have : ¬ k = j := fun e => hne e.symm
      simp [lk, this]
    · simp only [if_neg e1, lk]
      rw [lk_set_ne hne h]

theorem lk_set_eq {i : Nat} {o o0 : Ob} {h : Heap} (hl : lk h i = some o0) : lk (hset h i o) i = some o := by rw [lk_hset o hl, if_pos rfl]

theorem hset_id {i : Nat} {o : Ob} : ∀ {h : Heap}, lk h i = some o → hset h i o = h
  | [], hl => rfl
  | (k, x) :: h, hl => by
    simp only [lk] at hl
    simp only [hset]
    by_cases e : k = i
    · rw [if_pos e] at hl ⊢
      injection hl with hl
      rw [hl]
    · rw [if_neg e] at hl ⊢
      rw [hset_id hl]

section
variable {P : Program}

/-- Nothing is left behind but what the caller had: the next number is the caller's. -/
theorem HCall.low {g : FuncId} {args : List AVal} {h h' : Heap} {nx : Nat} {r : AVal} (c : HCall P g args h nx fun r' h2 _ => r' = r ∧ h2 = h')
    (hn : (∀ id o, lk h id = some o → id < nx ∧ o.nm (Lt nx)) → ∀ id o, lk h' id = some o → id < nx ∧ o.nm (Lt nx)) (hr : Nm (Lt nx) r) : HCall P g args h nx fun r' h2 n => r' = r ∧ h2 = h' ∧ n = nx := by
  refine ⟨c.callable, fun ext β w vs h1 h2 h3 h4 => (c.run ext β w vs h1 h2 h3 h4).mono ?_⟩
  rintro e w' ⟨v, r', β', h2', nx', he, ⟨rfl, rfl⟩, hle, hin, hnm, hv, hev, hst⟩
  exact ⟨v, r', β', h2', nx, he, ⟨rfl, rfl, rfl⟩, Nat.le_refl _, ⟨hin.ob, hn h1.nm, hin.inj, hin.ext⟩, hr, hv, hev, hst⟩

variable {n0 : Nat} {Q : Exit → St → Prop} {k : List It}

/-- Lists of nothing at all inside an object, or in slots, become ones of an object that is not there yet. -/
def NewC (j : Nat) : List AVal → List AVal → Prop := NewL j
def NewR (j : Nat) : List (List AVal) → List (List AVal) → Prop
  | [], [] => True
  | x :: xs, y :: ys => NewL j x y ∧ NewR j xs ys
  | _, _ => False

theorem NewR.get {j : Nat} : ∀ {xs ys : List (List AVal)}, NewR j xs ys → ys.length = xs.length ∧ ∀ (k : Nat) x y, xs[k]? = some x → ys[k]? = some y → NewL j x y
  | [], [], _ => ⟨rfl, fun k x y hx => by simp at hx⟩
  | x :: xs, y :: ys, f => by
    obtain ⟨h1, h2⟩ := NewR.get f.2
    refine ⟨by simp [h1], fun k a b ha hb => ?_⟩
    cases k with
    | zero => simp at ha hb; subst ha; subst hb; exact f.1
    | succ k => exact h2 k a b (by simpa using ha) (by simpa using hb)
  | [], _ :: _, f => f.elim
  | _ :: _, [], f => f.elim

theorem new_rel {j : Nat} {c d : Cx} {p : Nat → Prop} (st : Step p c d) (hz : ∀ v, VRel c (.sl [] (some 0)) v → VRel d (.ref j 0 0 0 false 0) v) {x y : AVal} (h : y = x ∨ y = .junk ∨ (x = .sl [] (some 0) ∧ y = .ref j 0 0 0 false 0)) (hx : Nm p x) : ∀ v, VRel c x v → VRel d y v := by
  intro v hv
  rcases h with rfl | rfl | ⟨rfl, rfl⟩
  · exact hv.step st hx
  · exact .junk v
  · exact hz v hv

theorem new_nm {j : Nat} {p q : Nat → Prop} (hpq : ∀ i, p i → q i) (hj : q j) {x y : AVal} (h : y = x ∨ y = .junk ∨ (x = .sl [] (some 0) ∧ y = .ref j 0 0 0 false 0)) (hx : Nm p x) : Nm q y := by
  rcases h with rfl | rfl | ⟨rfl, rfl⟩
  · exact hx.mono hpq
  · exact .junk
  · exact .ref _ _ _ _ _ _ hj

theorem SIn.unbornO {ext : Nat → Prop} {β : Nat → Option Nat} {tm tm' : List AVal} {h : Heap} {nx id esz0 esz : Nat} {xs ys : List (List AVal)} {a : Act} {w : World} (i : SIn n0 ext β ⟨tm, h, nx⟩ a w) (hl : lk h id = some (.arr esz0 xs)) (hr : NewR nx xs ys) (ht : NewL nx tm tm') :
    ∃ β', SIn n0 ext β' ⟨tm', (nx, .arr esz []) :: hset h id (.arr esz0 ys), nx + 1⟩ a w ∧ Goes n0 ext β h w β' ((nx, .arr esz []) :: hset h id (.arr esz0 ys)) w := by
  obtain ⟨h1, h2, h3⟩ := i.heap.unborn (fresh := nx) (fun h => Nat.lt_irrefl _ h) esz
  have hlow : n0 ≤ nx := by
    rcases Nat.lt_or_ge nx n0 with h8 | h8
    · exact absurd (i.low nx h8) (Nat.lt_irrefl _)
    · exact h8
  have hidn : id < nx := (i.heap.nm id _ hl).1
  have hq : ∀ j, (Lt nx j ∨ j = nx) → Lt (nx + 1) j := fun j hj => by simp only [Lt] at *; omega
  have hq' : ∀ j, Lt nx j → Lt (nx + 1) j := fun j hj => hq j (.inl hj)
  refine ⟨fun j => if j = nx then none else β j, ?_⟩
  -- the heap with the new object, and the old one in it
  have hk : ∀ j, lk ((nx, Ob.arr esz []) :: hset h id (.arr esz0 ys)) j = if j = nx then some (.arr esz []) else if j = id then some (.arr esz0 ys) else lk h j := fun j => by
    rw [lk_cons, lk_hset _ hl]
  have hk0 : ∀ j, lk ((nx, Ob.arr esz []) :: h) j = if j = nx then some (.arr esz []) else lk h j := fun j => lk_cons _ _ _ _
  have back : ∀ {j o'}, lk ((nx, Ob.arr esz []) :: hset h id (.arr esz0 ys)) j = some o' → ∃ o, lk ((nx, Ob.arr esz []) :: h) j = some o ∧ (o' = o ∨ (j = id ∧ o = .arr esz0 xs ∧ o' = .arr esz0 ys)) := by
    intro j o' e
    rw [hk] at e
    rw [hk0]
    split at e
    · rename_i hj
      rw [if_pos hj]
      exact ⟨_, e, .inl rfl⟩
    · rename_i hj
      rw [if_neg hj]
      split at e
      · rename_i hj2
        subst hj2
        injection e with e
        exact ⟨_, hl, .inr ⟨rfl, rfl, e.symm⟩⟩
      · exact ⟨_, e, .inl rfl⟩
  have hown : ∀ b, owns (fun j => if j = nx then none else β j) ((nx, .arr esz []) :: hset h id (.arr esz0 ys)) b → owns (fun j => if j = nx then none else β j) ((nx, .arr esz []) :: h) b := fun b ⟨j, o', e1, e2⟩ => let ⟨o, e3, _⟩ := back e1; ⟨j, o, e3, e2⟩
  have st : ∀ p : Nat → Prop, Step p (cx ext (fun j => if j = nx then none else β j) ((nx, .arr esz []) :: h) w) (cx ext (fun j => if j = nx then none else β j) ((nx, .arr esz []) :: hset h id (.arr esz0 ys)) w) := fun p =>
    { cell := fun b o v h1 h2 => ⟨fun h3 => h1 (h3.imp (fun e => e) (hown b)), h2⟩
      shape := fun _ _ h => h
      arr := fun j _ esz' rows hr' => by
        obtain ⟨o, h1, h2⟩ := back hr'
        rcases h2 with h2 | ⟨_, h2, h3⟩
        · exact ⟨rows, by rw [h2]; exact h1, Nat.le_refl _, fun _ => rfl⟩
        · injection h3 with h3 h4
          subst h3
          subst h4
          subst h2
          exact ⟨xs, h1, Nat.le_of_eq hr.get.1.symm, fun _ => rfl⟩
      mp := fun j _ es hr' => by
        obtain ⟨o, h1, h2⟩ := back hr'
        rcases h2 with h2 | ⟨_, _, h3⟩
        · exact ⟨es, by rw [h2]; exact h1, rfl⟩
        · cases h3 }
  have hz : ∀ v, VRel (cx ext β h w) (.sl [] (some 0)) v → VRel (cx ext (fun j => if j = nx then none else β j) ((nx, .arr esz []) :: hset h id (.arr esz0 ys)) w) (.ref nx 0 0 0 false 0) v := fun v hv => by
    cases hv with | sl _ _ a1 cap esz1 blk off vals hcap hlim _ _ _ _ =>
    have hc := hlim 0 rfl
    subst hc
    refine .ref nx 0 0 0 false 0 a1 0 (Nat.le_refl _) (Nat.le_refl _) (fun h => by cases h) fun esz2 rows2 hr => ?_
    exact ⟨Nat.zero_le _, fun _ => ⟨Nat.le_refl _, .inl rfl⟩⟩
  have stT : Step (Lt nx) (cx ext β h w) (cx ext (fun j => if j = nx then none else β j) ((nx, .arr esz []) :: hset h id (.arr esz0 ys)) w) := by
    refine ⟨fun b o v e1 e2 => ?_, fun _ _ e => e, fun j hj esz' rows e => ?_, fun j hj es e => ?_⟩
    · have := h3.cell b o v e1 e2
      exact (st (Lt nx)).cell b o v this.1 this.2
    · obtain ⟨r2, e1, e2, e3⟩ := (st (Lt nx)).arr j hj esz' rows e
      obtain ⟨r3, e4, e5, e6⟩ := h3.arr j hj esz' r2 e1
      exact ⟨r3, e4, Nat.le_trans e5 e2, fun e7 => (e3 (by omega)).trans (e6 (by omega))⟩
    · obtain ⟨r2, e1, e2⟩ := (st (Lt nx)).mp j hj es e
      obtain ⟨r3, e4, e5⟩ := h3.mp j hj r2 e1
      exact ⟨r3, e4, e2.trans e5⟩
  obtain ⟨hlen, hget⟩ := ht.get
  refine ⟨⟨⟨fun j o' hj => ?_, fun j o' hj => ?_, fun j j' o o' b e1 e2 e3 e4 => ?_, fun b hb => ⟨(i.heap.ext b hb).1, fun e => (h1.ext b hb).2 (hown b e)⟩⟩, by rw [i.size]; exact hlen.symm, fun k y v hy hv => ?_, fun y hy => ?_, i.defers, fun j hj => hq' j (i.low j hj)⟩, ⟨?_, stT.weaken fun j hj => Nat.lt_of_lt_of_le hj hlow⟩⟩
  · obtain ⟨o, e1, e2⟩ := back hj
    have e3 := (h1.nm j o e1).2
    rcases e2 with rfl | ⟨rfl, rfl, rfl⟩
    · exact ObIn.step (st _) rfl (fun _ _ => rfl) e3 (h1.ob j o' e1)
    · obtain ⟨e4, e5⟩ := i.heap.ob j _ hl
      have hnmx := (i.heap.nm j _ hl).2
      refine ⟨fun r' hr' => ?_, ?_⟩
      · obtain ⟨m, hm⟩ := mem_get hr'
        obtain ⟨r, hr0⟩ := get_of_len hr.get.1 hm
        rw [(hr.get.2 m r r' hr0 hm).get.1]
        exact e4 r (List.mem_of_getElem? hr0)
      · have hne : ¬ j = nx := by omega
        show match (if j = nx then none else β j) with | none => _ | some b => _
        rw [if_neg hne]
        have e5' : match β j with | none => xs = [] | some b => _ := e5
        cases hb : β j with
        | none =>
          simp only [hb] at e5' ⊢
          subst e5'
          have := hr.get.1
          exact List.length_eq_zero_iff.1 (by simpa using this)
        | some b =>
          simp only [hb] at e5' ⊢
          obtain ⟨cs, e', h6, h7, h8⟩ := e5'
          refine ⟨cs, e', h6, by rw [hr.get.1]; exact h7, fun m r' q x' hr' hx' => ?_⟩
          obtain ⟨r, hr0⟩ := get_of_len hr.get.1 hr'
          have fc := (hr.get.2 m r r' hr0 hr').get
          obtain ⟨x, hx⟩ := get_of_len fc.1 hx'
          obtain ⟨v, h11, h12, h13⟩ := h8 m r q x hr0 hx
          exact ⟨v, h11, h12, new_rel stT hz (fc.2 q x x' hx hx') (hnmx r (List.mem_of_getElem? hr0) x (List.mem_of_getElem? hx)) v h13⟩
  · obtain ⟨o, e1, e2⟩ := back hj
    have e3 := h1.nm j o e1
    rcases e2 with rfl | ⟨rfl, rfl, rfl⟩
    · exact ⟨hq j e3.1, Ob.nm_mono hq e3.2⟩
    · have hnmx := i.heap.nm j _ hl
      refine ⟨hq' j hnmx.1, fun r' hr' x' hx' => ?_⟩
      obtain ⟨m, hm⟩ := mem_get hr'
      obtain ⟨r, hr0⟩ := get_of_len hr.get.1 hm
      have fc := (hr.get.2 m r r' hr0 hm).get
      obtain ⟨q, hq0⟩ := mem_get hx'
      obtain ⟨x, hx⟩ := get_of_len fc.1 hq0
      exact new_nm hq' (Nat.lt_succ_self nx) (fc.2 q x x' hx hq0) (hnmx.2 r (List.mem_of_getElem? hr0) x (List.mem_of_getElem? hx))
  · obtain ⟨o1, f1, _⟩ := back e1
    obtain ⟨o2, f2, _⟩ := back e2
    exact h1.inj j j' o1 o2 b f1 f2 e3 e4
  · obtain ⟨x, hx⟩ := get_of_len hlen hy
    exact new_rel stT hz (hget k x y hx hy) (i.nm x (List.mem_of_getElem? hx)) v (i.rel k x v hx hv)
  · obtain ⟨k, hk2⟩ := mem_get hy
    obtain ⟨x, hx⟩ := get_of_len hlen hk2
    exact new_nm hq' (Nat.lt_succ_self nx) (hget k x y hx hk2) (i.nm x (List.mem_of_getElem? hx))
  · exact ⟨h2.size, h2.keep, fun b hb hb2 => h2.fresh b hb (hown b hb2), h2.shape, h2.rest⟩

theorem W_unbornO {c : Code} {tm tm' : List AVal} {hp hp' : Heap} {nx nx' : Nat} (id esz esz0 : Nat) (xs ys : List (List AVal)) (hl : lk hp id = some (.arr esz0 xs)) (hr : NewR nx xs ys) (ht : NewL nx tm tm') (e : (nx, Ob.arr esz []) :: hset hp id (.arr esz0 ys) = hp') (hn : nx + 1 = nx') (h : AWP P n0 c (unw P n0 k Q) ⟨tm', hp', nx'⟩) : AWP P n0 c (unw P n0 k Q) ⟨tm, hp, nx⟩ := by
  subst e
  subst hn
  intro ext β a w i
  obtain ⟨β', i2, g2⟩ := i.unbornO (esz := esz) hl hr ht
  exact wp_mono (h ext β' a w i2) fun _ _ _ p => p.after g2

end
end Go.AM
end

section
set_option linter.unusedVariables false
namespace Go.AM
open Go

/-- Another number for each object. -/
def ren0 (f : Nat → Nat) : AVal → AVal
  | .ref id sz b len ex c => .ref (f id) sz b len ex c
  | .ptr id sz r c => .ptr (f id) sz r c
  | .mapv id => .mapv (f id)
  | x => x
def ren1 (f : Nat → Nat) : AVal → AVal
  | .agg cs => .agg (cs.map (ren0 f))
  | x => ren0 f x
def renA (f : Nat → Nat) : AVal → AVal
  | .agg cs => .agg (cs.map (ren0 f))
  | .tuple cs => .tuple (cs.map (ren1 f))
  | x => ren0 f x
def renO (f : Nat → Nat) : Ob → Ob
  | .arr esz rows => .arr esz (rows.map fun r => r.map (ren0 f))
  | .mp m => .mp m
def renH (f : Nat → Nat) : Heap → Heap
  | [] => []
  | (i, o) :: h => (f i, renO f o) :: renH f h

/-- A value of one cell that names one of some objects, or none. -/
inductive Lf (S : Nat → Prop) : AVal → Prop
  | ref (id sz b len : Nat) (ex : Bool) (c : Nat) (h : S id) : Lf S (.ref id sz b len ex c)
  | ptr (id sz r c : Nat) (h : S id) : Lf S (.ptr id sz r c)
  | mapv (id : Nat) (h : S id) : Lf S (.mapv id)
  | fz (x : AVal) (h : Fz x) : Lf S x
inductive Lf1 (S : Nat → Prop) : AVal → Prop
  | leaf (x : AVal) (h : Lf S x) : Lf1 S x
  | agg (cs : List AVal) (h : ∀ c, c ∈ cs → Lf S c) : Lf1 S (.agg cs)
inductive LfA (S : Nat → Prop) : AVal → Prop
  | leaf (x : AVal) (h : Lf S x) : LfA S x
  | agg (cs : List AVal) (h : ∀ c, c ∈ cs → Lf S c) : LfA S (.agg cs)
  | tuple (cs : List AVal) (h : ∀ c, c ∈ cs → Lf1 S c) : LfA S (.tuple cs)
def LfO (S : Nat → Prop) : Ob → Prop
  | .arr _ rows => ∀ r, r ∈ rows → ∀ x, x ∈ r → Lf S x
  | .mp m => ∀ e, e ∈ m.es → Fz e.1 ∧ Fz e.2.1

theorem ren0_fz {f : Nat → Nat} {x : AVal} (h : Fz x) : ren0 f x = x := by
  cases h with
  | ref id sz base len ex c h => exact h.elim
  | ptr id sz row col h => exact h.elim
  | mapv id h => exact h.elim
  | _ => rfl

theorem ren0_nm {f : Nat → Nat} {S p : Nat → Prop} (hp : ∀ i, S i → p (f i)) {x : AVal} (h : Lf S x) : Nm p (ren0 f x) := by
  cases h with
  | ref id sz b len ex c h => exact .ref _ _ _ _ _ _ (hp _ h)
  | ptr id sz r c h => exact .ptr _ _ _ _ (hp _ h)
  | mapv id h => exact .mapv _ (hp _ h)
  | fz x h => rw [ren0_fz h]; exact Fz.nm h p

theorem Lf.nm {S p : Nat → Prop} (hp : ∀ i, S i → p i) {x : AVal} (h : Lf S x) : Nm p x := by
  cases h with
  | ref id sz b len ex c h => exact .ref _ _ _ _ _ _ (hp _ h)
  | ptr id sz r c h => exact .ptr _ _ _ _ (hp _ h)
  | mapv id h => exact .mapv _ (hp _ h)
  | fz x h => exact Fz.nm h p

theorem ren1_fz {f : Nat → Nat} {x : AVal} (h : Fz x) : ren1 f x = x := by
  cases x with
  | agg cs =>
    cases h with | agg _ h =>
    simp only [ren1]
    congr 1
    conv => rhs; rw [← List.map_id cs]
    exact List.map_congr_left fun c hc => ren0_fz (h c hc)
  | _ => exact ren0_fz (f := f) h

theorem Lf1.nm {S p : Nat → Prop} (hp : ∀ i, S i → p i) {x : AVal} (h : Lf1 S x) : Nm p x := by
  cases h with
  | leaf x h => exact h.nm hp
  | agg cs h => exact .agg _ fun c hc => (h c hc).nm hp
theorem LfA.nm {S p : Nat → Prop} (hp : ∀ i, S i → p i) {x : AVal} (h : LfA S x) : Nm p x := by
  cases h with
  | leaf x h => exact h.nm hp
  | agg cs h => exact .agg _ fun c hc => (h c hc).nm hp
  | tuple cs h => exact .tuple _ fun c hc => (h c hc).nm hp

theorem ren1_leaf {f : Nat → Nat} {S p : Nat → Prop} (hp : ∀ i, S i → p (f i)) {x : AVal} (h : Lf1 S x) : Nm p (ren1 f x) := by
  have hm : ∀ cs : List AVal, (∀ c, c ∈ cs → Lf S c) → ∀ y, y ∈ cs.map (ren0 f) → Nm p y := fun cs h y hy => by
    obtain ⟨c, hc, rfl⟩ := List.mem_map.1 hy
    exact ren0_nm hp (h c hc)
  cases h with
  | agg cs h => exact .agg _ (hm cs h)
  | leaf x h =>
    cases h with
    | ref id sz b len ex c h => exact .ref _ _ _ _ _ _ (hp _ h)
    | ptr id sz r c h => exact .ptr _ _ _ _ (hp _ h)
    | mapv id h => exact .mapv _ (hp _ h)
    | fz x h => exact (ren1_fz h ▸ Fz.nm h p : Nm p (ren1 f _))
theorem renA_leaf {f : Nat → Nat} {S p : Nat → Prop} (hp : ∀ i, S i → p (f i)) {x : AVal} (h : LfA S x) : Nm p (renA f x) := by
  have hm : ∀ cs : List AVal, (∀ c, c ∈ cs → Lf S c) → ∀ y, y ∈ cs.map (ren0 f) → Nm p y := fun cs h y hy => by
    obtain ⟨c, hc, rfl⟩ := List.mem_map.1 hy
    exact ren0_nm hp (h c hc)
  have hm1 : ∀ cs : List AVal, (∀ c, c ∈ cs → Lf1 S c) → ∀ y, y ∈ cs.map (ren1 f) → Nm p y := fun cs h y hy => by
    obtain ⟨c, hc, rfl⟩ := List.mem_map.1 hy
    exact ren1_leaf hp (h c hc)
  cases h with
  | leaf x h =>
    cases h with
    | ref id sz b len ex c h => exact .ref _ _ _ _ _ _ (hp _ h)
    | ptr id sz r c h => exact .ptr _ _ _ _ (hp _ h)
    | mapv id h => exact .mapv _ (hp _ h)
    | fz x h =>
      cases x with
      | agg cs => cases h with | agg _ h => exact .agg _ (hm cs fun c hc => .fz c (h c hc))
      | tuple cs => cases h with | tuple _ h => exact .tuple _ (hm1 cs fun c hc => .leaf c (.fz c (h c hc)))
      | _ => exact (ren0_fz h ▸ Fz.nm h p : Nm p (ren0 f _))
  | agg cs h => exact .agg _ (hm cs h)
  | tuple cs h => exact .tuple _ (hm1 cs h)

/-- Two contexts of one world: what is named by 'i' in the one is 'f i' in the other. -/
structure Ren (f : Nat → Nat) (S : Nat → Prop) (d c : Cx) : Prop where
  w : d.w = c.w
  own : ∀ b, d.own b ↔ c.own b
  lkd : ∀ i, S i → lk c.h (f i) = (lk d.h i).map (renO f)
  β : ∀ i, S i → d.β i = c.β (f i)

section
variable {f : Nat → Nat} {S : Nat → Prop} {d c : Cx}

theorem Ren.up (R : Ren f S d c) {x : AVal} {v : Value} (h : Lf S x) (hv : VRel d x v) : VRel c (ren0 f x) v := by
  cases h with
  | ref id sz b len ex cc h =>
    cases hv with | ref _ _ _ _ _ _ a cap hcap hlo hex hok =>
    refine .ref _ _ _ _ _ _ a cap hcap hlo hex fun esz rows hr => ?_
    rw [R.lkd id h] at hr
    cases ho : lk d.h id with
    | none => rw [ho] at hr; cases hr
    | some o =>
      rw [ho] at hr
      cases o with
      | mp m => simp [renO] at hr
      | arr esz2 rows2 =>
        simp only [Option.map_some, renO, Option.some.injEq, Ob.arr.injEq] at hr
        obtain ⟨rfl, rfl⟩ := hr
        obtain ⟨h1, h2⟩ := hok _ _ ho
        simp only [List.length_map]
        refine ⟨h1, fun e => ⟨(h2 e).1, ?_⟩⟩
        rcases (h2 e).2 with h3 | ⟨b', h3, h4, e', m, h5, h6⟩
        · exact .inl h3
        · exact .inr ⟨b', by rw [← R.β id h]; exact h3, h4, e', m, by rw [← R.w]; exact h5, h6⟩
  | ptr id sz r cc h =>
    cases hv with | ptr _ _ _ _ ad hok =>
    refine .ptr _ _ _ _ ad fun esz rows hr => ?_
    rw [R.lkd id h] at hr
    cases ho : lk d.h id with
    | none => rw [ho] at hr; cases hr
    | some o =>
      rw [ho] at hr
      cases o with
      | mp m => simp [renO] at hr
      | arr esz2 rows2 =>
        simp only [Option.map_some, renO, Option.some.injEq, Ob.arr.injEq] at hr
        obtain ⟨rfl, rfl⟩ := hr
        obtain ⟨h1, h2⟩ := hok _ _ ho
        simp only [List.length_map]
        refine ⟨h1, fun e => ?_⟩
        obtain ⟨b', h3, h4⟩ := h2 e
        exact ⟨b', by rw [← R.β id h]; exact h3, h4⟩
  | mapv id h =>
    cases hv with | mapv _ r hok =>
    refine .mapv _ r fun es hr => ?_
    rw [R.lkd id h] at hr
    cases ho : lk d.h id with
    | none => rw [ho] at hr; cases hr
    | some o =>
      rw [ho] at hr
      cases o with
      | arr _ _ => simp [renO] at hr
      | mp m => rw [← R.β id h]; exact hok _ ho
  | fz x h =>
    rw [ren0_fz h]
    refine hv.step (p := fun _ => False) ⟨fun b o v h1 h2 => ⟨fun h3 => h1 ((R.own b).2 h3), by rw [← R.w]; exact h2⟩, fun b x h1 => by rw [← R.w]; exact h1, fun _ h => h.elim, fun _ h => h.elim⟩ h

theorem Ren.down (R : Ren f S d c) {x : AVal} {v : Value} (h : Lf S x) (hv : VRel c (ren0 f x) v) : VRel d x v := by
  cases h with
  | ref id sz b len ex cc h =>
    cases hv with | ref _ _ _ _ _ _ a cap hcap hlo hex hok =>
    refine .ref _ _ _ _ _ _ a cap hcap hlo hex fun esz rows hr => ?_
    have hr2 := R.lkd id h
    rw [hr] at hr2
    obtain ⟨h1, h2⟩ := hok _ _ hr2
    simp only [List.length_map] at h1 h2
    refine ⟨h1, fun e => ⟨(h2 e).1, ?_⟩⟩
    rcases (h2 e).2 with h3 | ⟨b', h3, h4, e', m, h5, h6⟩
    · exact .inl h3
    · exact .inr ⟨b', by rw [R.β id h]; exact h3, h4, e', m, by rw [R.w]; exact h5, h6⟩
  | ptr id sz r cc h =>
    cases hv with | ptr _ _ _ _ ad hok =>
    refine .ptr _ _ _ _ ad fun esz rows hr => ?_
    have hr2 := R.lkd id h
    rw [hr] at hr2
    obtain ⟨h1, h2⟩ := hok _ _ hr2
    simp only [List.length_map] at h1 h2
    refine ⟨h1, fun e => ?_⟩
    obtain ⟨b', h3, h4⟩ := h2 e
    exact ⟨b', by rw [R.β id h]; exact h3, h4⟩
  | mapv id h =>
    cases hv with | mapv _ r hok =>
    refine .mapv _ r fun es hr => ?_
    have hr2 := R.lkd id h
    rw [hr] at hr2
    rw [R.β id h]
    exact hok _ hr2
  | fz x h =>
    rw [ren0_fz h] at hv
    refine hv.step (p := fun _ => False) ⟨fun b o v h1 h2 => ⟨fun h3 => h1 ((R.own b).1 h3), by rw [R.w]; exact h2⟩, fun b x h1 => by rw [R.w]; exact h1, fun _ h => h.elim, fun _ h => h.elim⟩ h

theorem Ren.up1 (R : Ren f S d c) {x : AVal} {v : Value} (h : Lf1 S x) (hv : VRel d x v) : VRel c (ren1 f x) v := by
  have hm : ∀ cs : List AVal, (∀ y, y ∈ cs → Lf S y) → ∀ vs : Array Value, (∀ (i : Nat) x v, cs[i]? = some x → vs[i]? = some v → VRel d x v) → ∀ (i : Nat) x v, (cs.map (ren0 f))[i]? = some x → vs[i]? = some v → VRel c x v := fun cs h vs hr i x v hx hv => by
    rw [List.getElem?_map] at hx
    cases hy : cs[i]? with
    | none => rw [hy] at hx; cases hx
    | some y =>
      rw [hy] at hx
      injection hx with hx
      subst hx
      exact R.up (h y (List.mem_of_getElem? hy)) (hr i y v hy hv)
  have hagg : ∀ cs : List AVal, (∀ y, y ∈ cs → Lf S y) → VRel d (.agg cs) v → VRel c (.agg (cs.map (ren0 f))) v := fun cs h hv => by
    cases hv with | agg _ vs hlen hone hrel => exact .agg _ vs (by rw [hlen, List.length_map]) hone (hm cs h vs hrel)
  cases h with
  | agg cs h => exact hagg cs h hv
  | leaf x h =>
    cases x with
    | agg cs => cases h with | fz _ h => cases h with | agg _ h => exact hagg cs (fun y hy => .fz y (h y hy)) hv
    | _ => exact R.up h hv

theorem Ren.upA (R : Ren f S d c) {x : AVal} {v : Value} (h : LfA S x) (hv : VRel d x v) : VRel c (renA f x) v := by
  have hm : ∀ cs : List AVal, (∀ y, y ∈ cs → Lf1 S y) → ∀ vs : Array Value, (∀ (i : Nat) x v, cs[i]? = some x → vs[i]? = some v → VRel d x v) → ∀ (i : Nat) x v, (cs.map (ren1 f))[i]? = some x → vs[i]? = some v → VRel c x v := fun cs h vs hr i x v hx hv => by
    rw [List.getElem?_map] at hx
    cases hy : cs[i]? with
    | none => rw [hy] at hx; cases hx
    | some y =>
      rw [hy] at hx
      injection hx with hx
      subst hx
      exact R.up1 (h y (List.mem_of_getElem? hy)) (hr i y v hy hv)
  have htup : ∀ cs : List AVal, (∀ y, y ∈ cs → Lf1 S y) → VRel d (.tuple cs) v → VRel c (.tuple (cs.map (ren1 f))) v := fun cs h hv => by
    cases hv with | tuple _ vs hlen hrel => exact .tuple _ vs (by rw [hlen, List.length_map]) (hm cs h vs hrel)
  cases h with
  | agg cs h => exact R.up1 (.agg cs h) hv
  | tuple cs h => exact htup cs h hv
  | leaf x h =>
    cases x with
    | agg cs => cases h with | fz _ h => cases h with | agg _ h => exact R.up1 (.agg cs (fun y hy => .fz y (h y hy))) hv
    | tuple cs => cases h with | fz _ h => cases h with | tuple _ h => exact htup cs (fun y hy => .leaf y (.fz y (h y hy))) hv
    | _ => exact R.up h hv

theorem Ren.down1 (R : Ren f S d c) {x : AVal} {v : Value} (h : Lf1 S x) (hv : VRel c (ren1 f x) v) : VRel d x v := by
  have hm : ∀ cs : List AVal, (∀ y, y ∈ cs → Lf S y) → ∀ vs : Array Value, (∀ (i : Nat) x v, (cs.map (ren0 f))[i]? = some x → vs[i]? = some v → VRel c x v) → ∀ (i : Nat) x v, cs[i]? = some x → vs[i]? = some v → VRel d x v := fun cs h vs hr i x v hx hv =>
    R.down (h x (List.mem_of_getElem? hx)) (hr i _ v (by rw [List.getElem?_map, hx]; rfl) hv)
  have hagg : ∀ cs : List AVal, (∀ y, y ∈ cs → Lf S y) → VRel c (.agg (cs.map (ren0 f))) v → VRel d (.agg cs) v := fun cs h hv => by
    cases hv with | agg _ vs hlen hone hrel => exact .agg _ vs (by rw [hlen, List.length_map]) hone (hm cs h vs hrel)
  cases h with
  | agg cs h => exact hagg cs h hv
  | leaf x h =>
    cases x with
    | agg cs => cases h with | fz _ h => cases h with | agg _ h => exact hagg cs (fun y hy => .fz y (h y hy)) hv
    | _ => exact R.down h hv

theorem Ren.downA (R : Ren f S d c) {x : AVal} {v : Value} (h : LfA S x) (hv : VRel c (renA f x) v) : VRel d x v := by
  have hm : ∀ cs : List AVal, (∀ y, y ∈ cs → Lf1 S y) → ∀ vs : Array Value, (∀ (i : Nat) x v, (cs.map (ren1 f))[i]? = some x → vs[i]? = some v → VRel c x v) → ∀ (i : Nat) x v, cs[i]? = some x → vs[i]? = some v → VRel d x v := fun cs h vs hr i x v hx hv =>
    R.down1 (h x (List.mem_of_getElem? hx)) (hr i _ v (by rw [List.getElem?_map, hx]; rfl) hv)
  have htup : ∀ cs : List AVal, (∀ y, y ∈ cs → Lf1 S y) → VRel c (.tuple (cs.map (ren1 f))) v → VRel d (.tuple cs) v := fun cs h hv => by
    cases hv with | tuple _ vs hlen hrel => exact .tuple _ vs (by rw [hlen, List.length_map]) (hm cs h vs hrel)
  cases h with
  | agg cs h => exact R.down1 (.agg cs h) hv
  | tuple cs h => exact htup cs h hv
  | leaf x h =>
    cases x with
    | agg cs => cases h with | fz _ h => cases h with | agg _ h => exact R.down1 (.agg cs (fun y hy => .fz y (h y hy))) hv
    | tuple cs => cases h with | fz _ h => cases h with | tuple _ h => exact htup cs (fun y hy => .leaf y (.fz y (h y hy))) hv
    | _ => exact R.down h hv

theorem Ren.obUp (R : Ren f S d c) {i : Nat} {o : Ob} (hi : S i) (h : LfO S o) (ho : ObIn d i o) : ObIn c (f i) (renO f o) := by
  cases o with
  | arr esz rows =>
    obtain ⟨h1, h2⟩ := ho
    refine ⟨fun r hr => ?_, ?_⟩
    · obtain ⟨r', hr', rfl⟩ := List.mem_map.1 hr
      rw [List.length_map]
      exact h1 r' hr'
    · rw [← R.β i hi]
      cases hb : d.β i with
      | none => rw [hb] at h2; simp only at h2 ⊢; rw [h2]; rfl
      | some b =>
        rw [hb] at h2
        obtain ⟨cs, e, h3, h4, h5⟩ := h2
        refine ⟨cs, e, by rw [← R.w]; exact h3, by rw [List.length_map]; exact h4, fun k r j x hr hx => ?_⟩
        rw [List.getElem?_map] at hr
        cases hr2 : rows[k]? with
        | none => rw [hr2] at hr; cases hr
        | some r2 =>
          rw [hr2] at hr
          injection hr with hr
          subst hr
          rw [List.getElem?_map] at hx
          cases hx2 : r2[j]? with
          | none => rw [hx2] at hx; cases hx
          | some x2 =>
            rw [hx2] at hx
            injection hx with hx
            subst hx
            obtain ⟨v, h6, h7, h8⟩ := h5 k r2 j x2 hr2 hx2
            exact ⟨v, h6, h7, R.up (h r2 (List.mem_of_getElem? hr2) x2 (List.mem_of_getElem? hx2)) h8⟩
  | mp m =>
    obtain ⟨b, ms, h1, h2, h3, h4⟩ := ho
    refine ⟨b, ms, by rw [← R.β i hi]; exact h1, by rw [← R.w]; exact h2, h3, fun k kk vv n e he hm => ?_⟩
    obtain ⟨q1, q2, q3⟩ := h4 k kk vv n e he hm
    obtain ⟨z1, z2⟩ := h _ (List.mem_of_getElem? he)
    have g1 := R.up (.fz _ z1) q1
    have g2 := R.up (.fz _ z2) q2
    rw [ren0_fz z1] at g1
    rw [ren0_fz z2] at g2
    exact ⟨g1, g2, q3⟩

theorem Ren.obDown (R : Ren f S d c) {i : Nat} {o : Ob} (hi : S i) (h : LfO S o) (ho : ObIn c (f i) (renO f o)) : ObIn d i o := by
  cases o with
  | arr esz rows =>
    obtain ⟨h1, h2⟩ := ho
    refine ⟨fun r hr => ?_, ?_⟩
    · have := h1 _ (List.mem_map.2 ⟨r, hr, rfl⟩)
      rwa [List.length_map] at this
    · rw [R.β i hi]
      cases hb : c.β (f i) with
      | none => rw [hb] at h2; simp only [List.map_eq_nil_iff] at h2; exact h2
      | some b =>
        rw [hb] at h2
        obtain ⟨cs, e, h3, h4, h5⟩ := h2
        refine ⟨cs, e, by rw [R.w]; exact h3, by rw [List.length_map] at h4; exact h4, fun k r j x hr hx => ?_⟩
        obtain ⟨v, h6, h7, h8⟩ := h5 k (r.map (ren0 f)) j (ren0 f x) (by rw [List.getElem?_map, hr]; rfl) (by rw [List.getElem?_map, hx]; rfl)
        exact ⟨v, h6, h7, R.down (h r (List.mem_of_getElem? hr) x (List.mem_of_getElem? hx)) h8⟩
  | mp m =>
    obtain ⟨b, ms, h1, h2, h3, h4⟩ := ho
    refine ⟨b, ms, by rw [R.β i hi]; exact h1, by rw [R.w]; exact h2, h3, fun k kk vv n e he hm => ?_⟩
    obtain ⟨q1, q2, q3⟩ := h4 k kk vv n e he hm
    obtain ⟨z1, z2⟩ := h _ (List.mem_of_getElem? he)
    have g1 : VRel d kk e.key := R.down (.fz _ z1) (by rw [ren0_fz z1]; exact q1)
    have g2 : VRel d vv e.val := R.down (.fz _ z2) (by rw [ren0_fz z2]; exact q2)
    exact ⟨g1, g2, q3⟩

end

theorem renO_nm {f : Nat → Nat} {S p : Nat → Prop} (hp : ∀ i, S i → p (f i)) {o : Ob} (h : LfO S o) : (renO f o).nm p := by
  cases o with
  | arr esz rows =>
    intro r hr x hx
    obtain ⟨r', hr', rfl⟩ := List.mem_map.1 hr
    obtain ⟨x', hx', rfl⟩ := List.mem_map.1 hx
    exact ren0_nm hp (h r' hr' x' hx')
  | mp m => exact fun e he => ⟨Fz.nm (h e he).1 p, Fz.nm (h e he).2 p⟩

theorem LfO.nm {S p : Nat → Prop} (hp : ∀ i, S i → p i) {o : Ob} (h : LfO S o) : o.nm p := by
  cases o with
  | arr esz rows => exact fun r hr x hx => (h r hr x hx).nm hp
  | mp m => exact fun e he => ⟨Fz.nm (h e he).1 p, Fz.nm (h e he).2 p⟩

theorem lk_mem {h : Heap} {i : Nat} {o : Ob} (e : lk h i = some o) : (i, o) ∈ h := by
  induction h with
  | nil => cases e
  | cons a h ih =>
    obtain ⟨j, q⟩ := a
    simp only [lk] at e
    split at e
    · rename_i hj
      injection e with e
      subst hj e
      exact List.mem_cons_self ..
    · exact List.mem_cons_of_mem _ (ih e)

theorem lk_none {h : Heap} {i : Nat} (e : lk h i = none) : i ∉ h.map (·.1) := by
  induction h with
  | nil => simp
  | cons a h ih =>
    obtain ⟨j, q⟩ := a
    simp only [lk] at e
    split at e
    · cases e
    · rename_i hj
      simp only [List.map_cons, List.mem_cons, not_or]
      exact ⟨fun h => hj h.symm, ih e⟩

theorem lk_some_of {h : Heap} {i : Nat} (hm : i ∈ h.map (·.1)) : ∃ o, lk h i = some o := by
  cases e : lk h i with
  | none => exact absurd hm (lk_none e)
  | some o => exact ⟨o, rfl⟩

theorem lk_of_mem {h : Heap} (hn : (h.map (·.1)).Nodup) {e : Nat × Ob} (he : e ∈ h) : lk h e.1 = some e.2 := by
  induction h with
  | nil => cases he
  | cons a h ih =>
    obtain ⟨j, q⟩ := a
    simp only [List.map_cons, List.nodup_cons] at hn
    simp only [lk]
    rcases List.mem_cons.1 he with rfl | he
    · rw [if_pos rfl]
    · rw [if_neg fun (e' : j = e.1) => hn.1 (by rw [e']; exact List.mem_map.2 ⟨e, he, rfl⟩)]
      exact ih hn.2 he

theorem lk_append (a b : Heap) (j : Nat) : lk (a ++ b) j = (lk a j).or (lk b j) := by
  induction a with
  | nil => rfl
  | cons e a ih =>
    obtain ⟨i, o⟩ := e
    simp only [List.cons_append, lk]
    split
    · rfl
    · exact ih

theorem lk_renH {f : Nat → Nat} {K : Nat → Prop} (hinj : ∀ i j, K i → K j → f i = f j → i = j) {i : Nat} (hi : K i) : ∀ {h : Heap}, (∀ e, e ∈ h → K e.1) → lk (renH f h) (f i) = (lk h i).map (renO f)
  | [], _ => rfl
  | (j, o) :: h, hk => by
    simp only [renH, lk]
    by_cases e : j = i
    · subst e; rw [if_pos rfl, if_pos rfl]; rfl
    · rw [if_neg e, if_neg fun e' => e (hinj j i (hk (j, o) (List.mem_cons_self ..)) hi e')]
      exact lk_renH hinj hi fun e he => hk e (List.mem_cons_of_mem _ he)

theorem lk_renH_none {f : Nat → Nat} {id : Nat} : ∀ {h : Heap}, (∀ e, e ∈ h → f e.1 ≠ id) → lk (renH f h) id = none
  | [], _ => rfl
  | (j, o) :: h, hk => by
    simp only [renH, lk]
    rw [if_neg (hk (j, o) (List.mem_cons_self ..))]
    exact lk_renH_none fun e he => hk e (List.mem_cons_of_mem _ he)

theorem renH_mem {f : Nat → Nat} {h : Heap} {e : Nat × Ob} (he : e ∈ renH f h) : ∃ q, q ∈ h ∧ e = (f q.1, renO f q.2) := by
  induction h with
  | nil => cases he
  | cons a h ih =>
    obtain ⟨j, o⟩ := a
    simp only [renH] at he
    rcases List.mem_cons.1 he with rfl | he
    · exact ⟨_, List.mem_cons_self .., rfl⟩
    · obtain ⟨q, hq, e1⟩ := ih he
      exact ⟨q, List.mem_cons_of_mem _ hq, e1⟩

theorem lk_upds_in {f : Nat → Nat} {K : Nat → Prop} (hinj : ∀ i j, K i → K j → f i = f j → i = j) : ∀ (L : Heap) (h : Heap), (L.map (·.1)).Nodup → (∀ e, e ∈ L → K e.1) → (∀ e, e ∈ L → (lk h (f e.1)).isSome = true) → ∀ e, e ∈ L → lk (upds h (renH f L)) (f e.1) = some (renO f e.2)
  | [], h, _, _, _, e, he => by cases he
  | (j, o) :: L, h, hn, hk, hs, e, he => by
    simp only [List.map_cons, List.nodup_cons] at hn
    simp only [renH, upds]
    have hj : (lk h (f j)).isSome = true := hs (j, o) (List.mem_cons_self ..)
    rcases List.mem_cons.1 he with rfl | he
    · rw [lk_upds_ne, lk_hset' hj, if_pos rfl]
      intro q hq
      obtain ⟨q', hq', rfl⟩ := renH_mem hq
      intro e'
      have := hinj q'.1 j (hk q' (List.mem_cons_of_mem _ hq')) (hk (j, o) (List.mem_cons_self ..)) e'
      exact hn.1 (this ▸ List.mem_map.2 ⟨q', hq', rfl⟩)
    · exact lk_upds_in hinj L _ hn.2 (fun e he => hk e (List.mem_cons_of_mem _ he)) (fun e he => lk_hset_isSome (hs e (List.mem_cons_of_mem _ he)) hj) e he

section
variable {P : Program}

/-- A function that was shown over a heap of its own, with new objects 'N' and old ones 'U', where there is more. -/
theorem HCall.lift {g : FuncId} {args : List AVal} {L N U : Heap} {nx : Nat} {r0 : AVal} {f : Nat → Nat} (hc : HCall P g args L nx fun r h _ => r = r0 ∧ h = N ++ U) (hU : U.map (·.1) = L.map (·.1)) (hnd : ((N ++ U).map (·.1)).Nodup)
    (hlt : ∀ e, e ∈ L → e.1 < nx) (hinj : ∀ i j, i ∈ (N ++ U).map (·.1) → j ∈ (N ++ U).map (·.1) → f i = f j → i = j)
    (hLf : ∀ e, e ∈ L → LfO (fun i => i ∈ L.map (·.1)) e.2) (hNU : ∀ e, e ∈ N ++ U → LfO (fun i => i ∈ (N ++ U).map (·.1)) e.2) (hr : LfA (fun i => i ∈ (N ++ U).map (·.1)) r0) (ha : ∀ x, x ∈ args → LfA (fun i => i ∈ L.map (·.1)) x)
    (ext : Nat → Prop) (β : Nat → Option Nat) (p : Nat → Prop) (h : Heap) (w : World) (vs : Array Value) (hin : HIn ext β p h w) (hL : ∀ e, e ∈ L → lk h (f e.1) = some (renO f e.2)) (hfresh : ∀ e, e ∈ N → ¬ p (f e.1)) (hsz : vs.size = args.length)
    (hrel : ∀ (k : Nat) x v, (args.map (renA f))[k]? = some x → vs[k]? = some v → VRel (cx ext β h w) x v) :
    Calls P g vs w fun e w' => ∃ v β', e = .returned v ∧ HIn ext β' (fun j => p j ∨ ∃ e, e ∈ N ∧ j = f e.1) (renH f N ++ upds h (renH f U)) w' ∧ VRel (cx ext β' (renH f N ++ upds h (renH f U)) w') (renA f r0) v ∧
      Nm (fun j => p j ∨ ∃ e, e ∈ N ∧ j = f e.1) (renA f r0) ∧ Evo (owns β h) w (owns β' (renH f N ++ upds h (renH f U))) w' ∧ Step p (cx ext β h w) (cx ext β' (renH f N ++ upds h (renH f U)) w') := by
  -- the keys
  have hKU : ∀ i, i ∈ L.map (·.1) → i ∈ (N ++ U).map (·.1) := fun i hi => by rw [List.map_append, List.mem_append, hU]; exact .inr hi
  have hKN : ∀ e, e ∈ N → e.1 ∈ (N ++ U).map (·.1) := fun e he => List.mem_map.2 ⟨e, List.mem_append_left _ he, rfl⟩
  have hndU : (U.map (·.1)).Nodup := by rw [List.map_append] at hnd; exact (List.nodup_append.1 hnd).2.1
  have hndL : (L.map (·.1)).Nodup := hU ▸ hndU
  have hlkL : ∀ i, i ∈ L.map (·.1) → lk h (f i) = (lk L i).map (renO f) := fun i hi => by
    obtain ⟨o, ho⟩ := lk_some_of hi
    rw [ho]
    exact hL _ (lk_mem ho)
  have hpL : ∀ i, i ∈ L.map (·.1) → p (f i) := fun i hi => by
    obtain ⟨o, ho⟩ := lk_some_of hi
    exact (hin.nm _ _ (hL _ (lk_mem ho))).1
  -- the other objects
  let Oth : Nat → Prop := fun b => ∃ id o, lk h id = some o ∧ β id = some b ∧ ∀ i, i ∈ L.map (·.1) → f i ≠ id
  let ext0 : Nat → Prop := fun b => ext b ∨ Oth b
  let β0 : Nat → Option Nat := fun i => β (f i)
  have hown0 : ∀ b, (ext0 b ∨ owns β0 L b) ↔ (ext b ∨ owns β h b) := fun b => by
    constructor
    · rintro ((h1 | ⟨id, o, h1, h2, _⟩) | ⟨i, o, h1, h2⟩)
      · exact .inl h1
      · exact .inr ⟨id, o, h1, h2⟩
      · exact .inr ⟨f i, renO f o, hL _ (lk_mem h1), h2⟩
    · rintro (h1 | ⟨id, o, h1, h2⟩)
      · exact .inl (.inl h1)
      · by_cases hx : ∃ i, i ∈ L.map (·.1) ∧ f i = id
        · obtain ⟨i, hi, rfl⟩ := hx
          obtain ⟨o', ho'⟩ := lk_some_of hi
          exact .inr ⟨i, o', ho', h2⟩
        · exact .inl (.inr ⟨id, o, h1, h2, fun i hi e => hx ⟨i, hi, e⟩⟩)
  have R0 : Ren f (fun i => i ∈ L.map (·.1)) (cx ext0 β0 L w) (cx ext β h w) := ⟨rfl, hown0, hlkL, fun _ _ => rfl⟩
  have hin0 : HIn ext0 β0 (Lt nx) L w := by
    refine ⟨fun i o ho => ?_, fun i o ho => ⟨hlt _ (lk_mem ho), (hLf _ (lk_mem ho)).nm fun j hj => ?_⟩, fun i i' o o' b h1 h2 h3 h4 => ?_, fun b hb => ?_⟩
    · exact R0.obDown (List.mem_map.2 ⟨_, lk_mem ho, rfl⟩) (hLf _ (lk_mem ho)) (hin.ob _ _ (hL _ (lk_mem ho)))
    · obtain ⟨e, he, rfl⟩ := List.mem_map.1 hj
      exact hlt e he
    · exact hinj i i' (hKU i (List.mem_map.2 ⟨_, lk_mem h1, rfl⟩)) (hKU i' (List.mem_map.2 ⟨_, lk_mem h2, rfl⟩)) (hin.inj _ _ _ _ b (hL _ (lk_mem h1)) (hL _ (lk_mem h2)) h3 h4)
    · rcases hb with hb | ⟨id, o, h1, h2, h3⟩
      · exact ⟨(hin.ext b hb).1, fun ⟨i, o, h1, h2⟩ => (hin.ext b hb).2 ⟨f i, _, hL _ (lk_mem h1), h2⟩⟩
      · refine ⟨hin.lt ⟨id, o, h1, h2⟩, fun ⟨i, o', h4, h5⟩ => ?_⟩
        exact h3 i (List.mem_map.2 ⟨_, lk_mem h4, rfl⟩) (hin.inj _ _ _ _ b (hL _ (lk_mem h4)) h1 h5 h2)
  refine (hc.run ext0 β0 w vs hin0 hsz (fun x hx => (ha x hx).nm fun j hj => ?_) (fun k x v hx hv => ?_)).mono ?_
  · obtain ⟨e, he, rfl⟩ := List.mem_map.1 hj
    exact hlt e he
  · exact R0.downA (ha x (List.mem_of_getElem? hx)) (hrel k _ v (by rw [List.getElem?_map, hx]; rfl) hv)
  rintro e w' ⟨v, r, β1, h1, nx1, rfl, ⟨rfl, rfl⟩, hle, hin1, hnr, hvr, hev, hst⟩
  -- the blocks behind the call
  let K : List Nat := (N ++ U).map (·.1)
  let fnd : Nat → Option Nat := fun id => K.find? fun i => decide (f i = id)
  have hfnd : ∀ i, i ∈ K → fnd (f i) = some i := fun i hi => by
    have h1 : (K.find? fun j => decide (f j = f i)).isSome = true := by rw [List.find?_isSome]; exact ⟨i, hi, by simp⟩
    obtain ⟨j, hj⟩ := Option.isSome_iff_exists.1 h1
    have h2 := List.find?_some hj
    have h3 := hinj j i (List.mem_of_find?_eq_some hj) hi (by simpa using h2)
    show K.find? _ = some i
    rw [hj, h3]
  have hfnd0 : ∀ id, (∀ i, i ∈ K → f i ≠ id) → fnd id = none := fun id hn => by
    show K.find? _ = none
    rw [List.find?_eq_none]
    intro i hi
    simpa using hn i hi
  let β' : Nat → Option Nat := fun id => match fnd id with | some i => β1 i | none => β id
  have hβK : ∀ i, i ∈ K → β' (f i) = β1 i := fun i hi => by show (match fnd (f i) with | some i => β1 i | none => β (f i)) = _; rw [hfnd i hi]
  have hβO : ∀ id, (∀ i, i ∈ K → f i ≠ id) → β' id = β id := fun id hn => by show (match fnd id with | some i => β1 i | none => β id) = _; rw [hfnd0 id hn]
  -- the heap behind the call
  have hmemK : ∀ e, e ∈ N ++ U → e.1 ∈ K := fun e he => List.mem_map.2 ⟨e, he, rfl⟩
  have hlkK : ∀ i, i ∈ K → lk (renH f N ++ upds h (renH f U)) (f i) = (lk (N ++ U) i).map (renO f) := fun i hi => by
    rw [lk_append, lk_append, lk_renH (K := fun i => i ∈ K) hinj hi fun e he => hKN e he]
    cases hN : lk N i with
    | some o => rfl
    | none =>
      simp only [Option.map_none, Option.none_or]
      have hiU : i ∈ U.map (·.1) := by
        rcases List.mem_append.1 (by rw [← List.map_append]; exact hi) with h2 | h2
        · exact absurd h2 (lk_none hN)
        · exact h2
      obtain ⟨o, ho⟩ := lk_some_of hiU
      rw [ho]
      refine lk_upds_in (K := fun i => i ∈ K) hinj U h hndU (fun e he => hmemK e (List.mem_append_right _ he)) (fun e he => ?_) (i, o) (lk_mem ho)
      have : e.1 ∈ L.map (·.1) := hU ▸ List.mem_map.2 ⟨e, he, rfl⟩
      obtain ⟨q, hq⟩ := lk_some_of this
      rw [hlkL e.1 this, hq]
      rfl
  have hlkO : ∀ id, (∀ i, i ∈ K → f i ≠ id) → lk (renH f N ++ upds h (renH f U)) id = lk h id := fun id hn => by
    rw [lk_append, lk_renH_none fun e he => hn e.1 (hKN e he), Option.none_or, lk_upds_ne]
    intro q hq
    obtain ⟨q', hq', rfl⟩ := renH_mem hq
    exact hn q'.1 (hmemK q' (List.mem_append_right _ hq'))
  have hsplit : ∀ id, (∃ i, i ∈ K ∧ id = f i) ∨ ∀ i, i ∈ K → f i ≠ id := fun id => by
    by_cases hx : ∃ i, i ∈ K ∧ id = f i
    · exact .inl hx
    · exact .inr fun i hi e => hx ⟨i, hi, e.symm⟩
  -- an object that is not the function's: it was there
  have hOthK : ∀ id o, lk h id = some o → (∀ i, i ∈ L.map (·.1) → f i ≠ id) → ∀ i, i ∈ K → f i ≠ id := fun id o ho hn i hi e => by
    rcases List.mem_append.1 (by rw [← List.map_append]; exact hi) with h2 | h2
    · obtain ⟨q, hq, rfl⟩ := List.mem_map.1 h2
      exact hfresh q hq (e ▸ (hin.nm id o ho).1)
    · exact hn i (hU ▸ h2) e
  have hown1 : ∀ b, (ext0 b ∨ owns β1 (N ++ U) b) ↔ (ext b ∨ owns β' (renH f N ++ upds h (renH f U)) b) := fun b => by
    constructor
    · rintro ((h2 | ⟨id, o, h2, h3, h4⟩) | ⟨i, o, h2, h3⟩)
      · exact .inl h2
      · have hn := hOthK id o h2 h4
        exact .inr ⟨id, o, by rw [hlkO id hn]; exact h2, by rw [hβO id hn]; exact h3⟩
      · have hi : i ∈ K := hmemK _ (lk_mem h2)
        exact .inr ⟨f i, renO f o, by rw [hlkK i hi, h2]; rfl, by rw [hβK i hi]; exact h3⟩
    · rintro (h2 | ⟨id, o, h2, h3⟩)
      · exact .inl (.inl h2)
      · rcases hsplit id with ⟨i, hi, rfl⟩ | hn
        · rw [hlkK i hi] at h2
          rw [hβK i hi] at h3
          obtain ⟨o', ho'⟩ := lk_some_of hi
          exact .inr ⟨i, o', ho', h3⟩
        · rw [hlkO id hn] at h2
          rw [hβO id hn] at h3
          exact .inl (.inr ⟨id, o, h2, h3, fun i hi => hn i (hKU i hi)⟩)
  have R1 : Ren f (fun i => i ∈ K) (cx ext0 β1 (N ++ U) w') (cx ext β' (renH f N ++ upds h (renH f U)) w') := ⟨rfl, hown1, hlkK, fun i hi => (hβK i hi).symm⟩
  have hpK : ∀ i, i ∈ K → (fun j => p j ∨ ∃ e, e ∈ N ∧ j = f e.1) (f i) := fun i hi => by
    rcases List.mem_append.1 (by rw [← List.map_append]; exact hi) with h2 | h2
    · obtain ⟨q, hq, rfl⟩ := List.mem_map.1 h2
      exact .inr ⟨q, hq, rfl⟩
    · exact .inl (hpL i (hU ▸ h2))
  have hstep : Step p (cx ext β h w) (cx ext β' (renH f N ++ upds h (renH f U)) w') := by
    refine ⟨fun b o v h2 h3 => ?_, fun b x hx => hst.shape b x hx, fun id hid esz rows hr => ?_, fun id hid es hr => ?_⟩
    · obtain ⟨h4, h5⟩ := hst.cell b o v (fun h6 => h2 ((hown0 b).1 h6)) h3
      exact ⟨fun h6 => h4 ((hown1 b).2 h6), h5⟩
    · have hr : lk (renH f N ++ upds h (renH f U)) id = some (.arr esz rows) := hr
      rcases hsplit id with ⟨i, hi, rfl⟩ | hn
      · have hiL : i ∈ L.map (·.1) := by
          rcases List.mem_append.1 (by rw [← List.map_append]; exact hi) with h2 | h2
          · obtain ⟨q, hq, rfl⟩ := List.mem_map.1 h2
            exact absurd hid (hfresh q hq)
          · exact hU ▸ h2
        rw [hlkK i hi] at hr
        obtain ⟨o, ho⟩ := lk_some_of hi
        rw [ho] at hr
        cases o with
        | mp m => simp [renO] at hr
        | arr esz1 rows1 =>
          simp only [Option.map_some, renO, Option.some.injEq, Ob.arr.injEq] at hr
          obtain ⟨rfl, rfl⟩ := hr
          obtain ⟨rows', h2, h3, h4⟩ := hst.arr i (by obtain ⟨q, hq, rfl⟩ := List.mem_map.1 hiL; exact hlt q hq) esz1 rows1 ho
          refine ⟨rows'.map fun r => r.map (ren0 f), ?_, by simpa using h3, fun e => ?_⟩
          · show lk h (f i) = _
            have h2 : lk L i = some (.arr esz1 rows') := h2
            rw [hlkL i hiL, h2]
            rfl
          · simp only [List.length_map] at e
            show β' (f i) = β (f i)
            rw [hβK i hi]
            exact h4 e
      · rw [hlkO id hn] at hr
        exact ⟨rows, hr, Nat.le_refl _, fun _ => hβO id hn⟩
    · have hr : lk (renH f N ++ upds h (renH f U)) id = some (.mp es) := hr
      rcases hsplit id with ⟨i, hi, rfl⟩ | hn
      · have hiL : i ∈ L.map (·.1) := by
          rcases List.mem_append.1 (by rw [← List.map_append]; exact hi) with h2 | h2
          · obtain ⟨q, hq, rfl⟩ := List.mem_map.1 h2
            exact absurd hid (hfresh q hq)
          · exact hU ▸ h2
        rw [hlkK i hi] at hr
        obtain ⟨o, ho⟩ := lk_some_of hi
        rw [ho] at hr
        cases o with
        | arr _ _ => simp [renO] at hr
        | mp m =>
          simp only [Option.map_some, renO, Option.some.injEq, Ob.mp.injEq] at hr
          subst hr
          obtain ⟨es', h2, h3⟩ := hst.mp i (by obtain ⟨q, hq, rfl⟩ := List.mem_map.1 hiL; exact hlt q hq) m ho
          refine ⟨es', ?_, ?_⟩
          · show lk h (f i) = _
            have h2 : lk L i = some (.mp es') := h2
            rw [hlkL i hiL, h2]
            rfl
          · show β' (f i) = β (f i)
            rw [hβK i hi]
            exact h3
      · rw [hlkO id hn] at hr
        exact ⟨es, hr, hβO id hn⟩
  have hobO : ∀ id o, lk h id = some o → (∀ i, i ∈ K → f i ≠ id) → ObIn (cx ext β' (renH f N ++ upds h (renH f U)) w') id o := fun id o ho hn => by
    refine ObIn.step hstep (hβO id hn) (fun b hb => ?_) (hin.nm id o ho).2 (hin.ob id o ho)
    have hb : β id = some b := hb
    refine hev.keep b (hin.lt ⟨id, o, ho, hb⟩) fun h2 => ?_
    exact (hin0.ext b (.inr ⟨id, o, ho, hb, fun i hi => hn i (hKU i hi)⟩)).2 h2
  refine ⟨v, β', rfl, ⟨fun id o ho => ?_, fun id o ho => ?_, fun id id' o o' b h2 h3 h4 h5 => ?_, fun b hb => ?_⟩, R1.upA hr hvr, renA_leaf hpK hr, ⟨hev.size, fun b hb hn => hev.keep b hb fun h2 => ?_, fun b hb h2 => ?_, hev.shape, hev.rest⟩, hstep⟩
  · rcases hsplit id with ⟨i, hi, rfl⟩ | hn
    · rw [hlkK i hi] at ho
      obtain ⟨o1, ho1⟩ := lk_some_of hi
      rw [ho1] at ho
      injection ho with ho
      subst ho
      exact R1.obUp hi (hNU _ (lk_mem ho1)) (hin1.ob _ _ ho1)
    · rw [hlkO id hn] at ho
      exact hobO id o ho hn
  · rcases hsplit id with ⟨i, hi, rfl⟩ | hn
    · rw [hlkK i hi] at ho
      obtain ⟨o1, ho1⟩ := lk_some_of hi
      rw [ho1] at ho
      injection ho with ho
      subst ho
      exact ⟨hpK i hi, renO_nm hpK (hNU _ (lk_mem ho1))⟩
    · rw [hlkO id hn] at ho
      exact ⟨.inl (hin.nm id o ho).1, Ob.nm_mono (fun _ h => .inl h) (hin.nm id o ho).2⟩
  · have mixed : ∀ i id o b, i ∈ K → (∀ i, i ∈ K → f i ≠ id) → lk h id = some o → β id = some b → β1 i = some b → False := fun i id o b hi hn ho hb hb1 => by
      obtain ⟨o1, ho1⟩ := lk_some_of hi
      exact (hin1.ext b (.inr ⟨id, o, ho, hb, fun i hi => hn i (hKU i hi)⟩)).2 ⟨i, o1, ho1, hb1⟩
    rcases hsplit id with ⟨i, hi, rfl⟩ | hn <;> rcases hsplit id' with ⟨i', hi', rfl⟩ | hn'
    · rw [hβK i hi] at h4
      rw [hβK i' hi'] at h5
      obtain ⟨o1, ho1⟩ := lk_some_of hi
      obtain ⟨o2, ho2⟩ := lk_some_of hi'
      rw [hin1.inj i i' o1 o2 b ho1 ho2 h4 h5]
    · rw [hβK i hi] at h4
      rw [hβO id' hn'] at h5
      rw [hlkO id' hn'] at h3
      exact (mixed i id' o' b hi hn' h3 h5 h4).elim
    · rw [hβO id hn] at h4
      rw [hlkO id hn] at h2
      rw [hβK i' hi'] at h5
      exact (mixed i' id o b hi' hn h2 h4 h5).elim
    · rw [hβO id hn] at h4
      rw [hlkO id hn] at h2
      rw [hβO id' hn'] at h5
      rw [hlkO id' hn'] at h3
      exact hin.inj id id' o o' b h2 h3 h4 h5
  · refine ⟨(hin1.ext b (.inl hb)).1, fun h2 => ?_⟩
    obtain ⟨id, o, h2, h3⟩ := h2
    rcases hsplit id with ⟨i, hi, rfl⟩ | hn
    · obtain ⟨o1, ho1⟩ := lk_some_of hi
      rw [hβK i hi] at h3
      exact (hin1.ext b (.inl hb)).2 ⟨i, o1, ho1, h3⟩
    · rw [hlkO id hn] at h2
      rw [hβO id hn] at h3
      exact (hin.ext b hb).2 ⟨id, o, h2, h3⟩
  · obtain ⟨i, o, h2, h3⟩ := h2
    exact hn ⟨f i, _, hL _ (lk_mem h2), h3⟩
  · obtain ⟨id, o, h2, h3⟩ := h2
    rcases hsplit id with ⟨i, hi, rfl⟩ | hn
    · obtain ⟨o1, ho1⟩ := lk_some_of hi
      rw [hβK i hi] at h3
      obtain ⟨j, q, h4, h5⟩ := hev.fresh b hb ⟨i, o1, ho1, h3⟩
      exact ⟨f j, _, hL _ (lk_mem h4), h5⟩
    · rw [hlkO id hn] at h2
      rw [hβO id hn] at h3
      exact ⟨id, o, h2, h3⟩

end
end Go.AM
end

section
set_option linter.unusedVariables false
namespace Go.AM
open Go

/-- Some objects are there. -/
def allIn (hp : Heap) : Heap → Prop
  | [] => True
  | (i, o) :: l => lk hp i = some o ∧ allIn hp l

theorem allIn_mem {hp : Heap} : ∀ {L : Heap}, allIn hp L → ∀ e, e ∈ L → lk hp e.1 = some e.2
  | [], _, e, he => by cases he
  | (i, o) :: L, h, e, he => by
    rcases List.mem_cons.1 he with rfl | he
    · exact h.1
    · exact allIn_mem h.2 e he

/-- A function is called that sets some objects anew, whatever else there is. -/
structure FCall (P : Program) (g : FuncId) (args : List AVal) (L : Heap) (r : AVal) (L' : Heap) : Prop where
  callable : Callable P g
  keys : ∀ e, e ∈ L' → e.1 ∈ L.map (·.1)
  run : ∀ (ext : Nat → Prop) (β : Nat → Option Nat) (p : Nat → Prop) (h : Heap) (w : World) (vs : Array Value), HIn ext β p h w → (∀ e, e ∈ L → lk h e.1 = some e.2) → vs.size = args.length →
    (∀ (k : Nat) x v, args[k]? = some x → vs[k]? = some v → VRel (cx ext β h w) x v) →
    Calls P g vs w fun e w' => ∃ v β', e = .returned v ∧ HIn ext β' p (upds h L') w' ∧ VRel (cx ext β' (upds h L') w') r v ∧ Nm p r ∧ Evo (owns β h) w (owns β' (upds h L')) w' ∧ Step p (cx ext β h w) (cx ext β' (upds h L') w')

/-- A function is called that makes new objects; 'N': by their numbers from 0 on. -/
structure NCall (P : Program) (g : FuncId) (args : List AVal) (r : AVal) (N : Heap) (n : Nat) : Prop where
  hc : HCall P g args [] 0 fun r' h _ => r' = r ∧ h = N
  nd : (N.map (·.1)).Nodup
  lt : ∀ e, e ∈ N → e.1 < n
  ob : ∀ e, e ∈ N → LfO (fun i => i ∈ N.map (·.1)) e.2
  res : LfA (fun i => i ∈ N.map (·.1)) r
  fz : ∀ x, x ∈ args → Fz x

theorem renA_fz {f : Nat → Nat} {x : AVal} (h : Fz x) : renA f x = x := by
  have hm : ∀ cs : List AVal, (∀ c, c ∈ cs → Fz c) → cs.map (ren0 f) = cs := fun cs h => by
    conv => rhs; rw [← List.map_id cs]
    exact List.map_congr_left fun c hc => ren0_fz (h c hc)
  have hm1 : ∀ cs : List AVal, (∀ c, c ∈ cs → Fz c) → cs.map (ren1 f) = cs := fun cs h => by
    conv => rhs; rw [← List.map_id cs]
    exact List.map_congr_left fun c hc => ren1_fz (h c hc)
  cases x with
  | agg cs => cases h with | agg _ h => simp only [renA]; rw [hm cs h]
  | tuple cs => cases h with | tuple _ h => simp only [renA]; rw [hm1 cs h]
  | _ => exact ren0_fz (f := f) h

theorem renH_keys (f : Nat → Nat) : ∀ h : Heap, (renH f h).map (·.1) = (h.map (·.1)).map f
  | [] => rfl
  | (i, o) :: h => by simp only [renH, List.map_cons]; rw [renH_keys f h]

theorem FCall.of {P : Program} {g : FuncId} {args0 args : List AVal} {L0 L0' L L' : Heap} {nx : Nat} {r0 r : AVal} {f : Nat → Nat} (hc : HCall P g args0 L0 nx fun r h _ => r = r0 ∧ h = L0') (hU : L0'.map (·.1) = L0.map (·.1)) (hnd : (L0.map (·.1)).Nodup)
    (hlt : ∀ e, e ∈ L0 → e.1 < nx) (hinj : ∀ i j, i ∈ L0.map (·.1) → j ∈ L0.map (·.1) → f i = f j → i = j)
    (hLf : ∀ e, e ∈ L0 → LfO (fun i => i ∈ L0.map (·.1)) e.2) (hLf' : ∀ e, e ∈ L0' → LfO (fun i => i ∈ L0.map (·.1)) e.2) (hr : LfA (fun i => i ∈ L0.map (·.1)) r0) (ha : ∀ x, x ∈ args0 → LfA (fun i => i ∈ L0.map (·.1)) x)
    (ea : args0.map (renA f) = args) (eL : renH f L0 = L) (eL' : renH f L0' = L') (er : renA f r0 = r) : FCall P g args L r L' := by
  subst ea eL eL' er
  refine ⟨hc.callable, fun e he => ?_, fun ext β p h w vs hin hL hsz hrel => ?_⟩
  · rw [renH_keys, ← hU, ← renH_keys]
    exact List.mem_map.2 ⟨e, he, rfl⟩
  · have hL2 : ∀ e, e ∈ L0 → lk h (f e.1) = some (renO f e.2) := fun e he => by
      have : (f e.1, renO f e.2) ∈ renH f L0 := by
        clear hL hLf hLf' hr ha hin hlt hnd hU hc hinj hrel
        induction L0 with
        | nil => cases he
        | cons a l ih =>
          obtain ⟨i, o⟩ := a
          simp only [renH]
          rcases List.mem_cons.1 he with rfl | he
          · exact List.mem_cons_self ..
          · exact List.mem_cons_of_mem _ (ih he)
      exact hL _ this
    have := HCall.lift (N := []) (U := L0') (f := f) hc hU (by simpa [hU] using hnd) hlt (by simpa [hU] using hinj) hLf (by simpa [hU] using hLf') (by simpa [hU] using hr) ha ext β p h w vs hin hL2 (fun e he => by cases he) (by simpa using hsz) hrel
    refine this.mono ?_
    rintro e w' ⟨v, β', h1, h2, h3, h4, h5, h6⟩
    have hq : ∀ j, (p j ∨ ∃ e, e ∈ ([] : Heap) ∧ j = f e.1) → p j := fun j hj => hj.elim (fun h => h) fun ⟨e, he, _⟩ => nomatch he
    exact ⟨v, β', h1, HIn.mono hq h2, h3, Nm.mono hq h4, h5, h6⟩

/-- As FCall; a new object is made. -/
structure FNCall (P : Program) (g : FuncId) (args : List AVal) (L : Heap) (r : Nat → AVal) (L' : Nat → Heap) (ob : Nat → Ob) : Prop where
  callable : Callable P g
  keys : ∀ f e, e ∈ L' f → e.1 ∈ L.map (·.1)
  run : ∀ (ext : Nat → Prop) (β : Nat → Option Nat) (p : Nat → Prop) (h : Heap) (w : World) (vs : Array Value) (f : Nat), HIn ext β p h w → ¬ p f → (∀ e, e ∈ L → lk h e.1 = some e.2) → vs.size = args.length →
    (∀ (k : Nat) x v, args[k]? = some x → vs[k]? = some v → VRel (cx ext β h w) x v) →
    Calls P g vs w fun e w' => ∃ v β', e = .returned v ∧ HIn ext β' (fun j => p j ∨ j = f) ((f, ob f) :: upds h (L' f)) w' ∧ VRel (cx ext β' ((f, ob f) :: upds h (L' f)) w') (r f) v ∧ Nm (fun j => p j ∨ j = f) (r f) ∧
      Evo (owns β h) w (owns β' ((f, ob f) :: upds h (L' f))) w' ∧ Step p (cx ext β h w) (cx ext β' ((f, ob f) :: upds h (L' f)) w')

theorem ren0_congr {f f' : Nat → Nat} {S : Nat → Prop} (he : ∀ i, S i → f i = f' i) {x : AVal} (h : Lf S x) : ren0 f x = ren0 f' x := by
  cases h with
  | ref id sz b len ex c h => simp only [ren0]; rw [he id h]
  | ptr id sz r c h => simp only [ren0]; rw [he id h]
  | mapv id h => simp only [ren0]; rw [he id h]
  | fz x h => rw [ren0_fz h, ren0_fz h]
theorem ren1_congr {f f' : Nat → Nat} {S : Nat → Prop} (he : ∀ i, S i → f i = f' i) {x : AVal} (h : Lf1 S x) : ren1 f x = ren1 f' x := by
  cases h with
  | agg cs h => simp only [ren1]; rw [List.map_congr_left fun c hc => ren0_congr he (h c hc)]
  | leaf x h =>
    cases h with
    | ref id sz b len ex c h => simp only [ren1, ren0]; rw [he id h]
    | ptr id sz r c h => simp only [ren1, ren0]; rw [he id h]
    | mapv id h => simp only [ren1, ren0]; rw [he id h]
    | fz x h => rw [ren1_fz h, ren1_fz h]
theorem renA_congr {f f' : Nat → Nat} {S : Nat → Prop} (he : ∀ i, S i → f i = f' i) {x : AVal} (h : LfA S x) : renA f x = renA f' x := by
  cases h with
  | agg cs h => simp only [renA]; rw [List.map_congr_left fun c hc => ren0_congr he (h c hc)]
  | tuple cs h => simp only [renA]; rw [List.map_congr_left fun c hc => ren1_congr he (h c hc)]
  | leaf x h =>
    cases h with
    | ref id sz b len ex c h => simp only [renA, ren0]; rw [he id h]
    | ptr id sz r c h => simp only [renA, ren0]; rw [he id h]
    | mapv id h => simp only [renA, ren0]; rw [he id h]
    | fz x h => rw [renA_fz h, renA_fz h]
theorem renO_congr {f f' : Nat → Nat} {S : Nat → Prop} (he : ∀ i, S i → f i = f' i) {o : Ob} (h : LfO S o) : renO f o = renO f' o := by
  cases o with
  | arr esz rows =>
    simp only [renO]
    congr 1
    exact List.map_congr_left fun r hr => List.map_congr_left fun x hx => ren0_congr he (h r hr x hx)
  | mp m => rfl

theorem FNCall.of {P : Program} {g : FuncId} {args0 args : List AVal} {L0 L0' L : Heap} {L' : Nat → Heap} {nx k : Nat} {r0 : AVal} {r : Nat → AVal} {o0 : Ob} {ob : Nat → Ob} {f : Nat → Nat} (hc : HCall P g args0 L0 nx fun r h _ => r = r0 ∧ h = (k, o0) :: L0') (hU : L0'.map (·.1) = L0.map (·.1)) (hnd : (k :: L0.map (·.1)).Nodup)
    (hlt : ∀ e, e ∈ L0 → e.1 < nx) (hinj : ∀ i j, i ∈ L0.map (·.1) → j ∈ L0.map (·.1) → f i = f j → i = j)
    (hLf : ∀ e, e ∈ L0 → LfO (fun i => i ∈ L0.map (·.1)) e.2) (hLf' : ∀ e, e ∈ (k, o0) :: L0' → LfO (fun i => i ∈ k :: L0.map (·.1)) e.2) (hr : LfA (fun i => i ∈ k :: L0.map (·.1)) r0) (ha : ∀ x, x ∈ args0 → LfA (fun i => i ∈ L0.map (·.1)) x)
    (ea : args0.map (renA f) = args) (eL : renH f L0 = L) (eL' : ∀ j, renH (fun i => if i = k then j else f i) L0' = L' j) (er : ∀ j, renA (fun i => if i = k then j else f i) r0 = r j) (eo : ∀ j, renO (fun i => if i = k then j else f i) o0 = ob j) : FNCall P g args L r L' ob := by
  subst ea eL
  have hnk : ∀ i, i ∈ L0.map (·.1) → ¬ i = k := fun i hi e => by
    rw [List.nodup_cons] at hnd
    exact hnd.1 (e ▸ hi)
  refine ⟨hc.callable, fun j e he => ?_, fun ext β p h w vs j hin hpj hL hsz hrel => ?_⟩
  · rw [← eL'] at he
    have h1 : e.1 ∈ (renH (fun i => if i = k then j else f i) L0').map (·.1) := List.mem_map.2 ⟨e, he, rfl⟩
    rw [renH_keys, hU] at h1
    obtain ⟨i, hi, e1⟩ := List.mem_map.1 h1
    rw [renH_keys, ← e1]
    simp only [if_neg (hnk i hi)]
    exact List.mem_map.2 ⟨i, hi, rfl⟩
  · have hL2 : ∀ e, e ∈ L0 → lk h (f e.1) = some (renO f e.2) := fun e he => by
      have : (f e.1, renO f e.2) ∈ renH f L0 := by
        clear hL hLf hLf' hr ha hin hlt hnd hU hc hinj hrel hnk
        induction L0 with
        | nil => cases he
        | cons a l ih =>
          obtain ⟨i, o⟩ := a
          simp only [renH]
          rcases List.mem_cons.1 he with rfl | he
          · exact List.mem_cons_self ..
          · exact List.mem_cons_of_mem _ (ih he)
      exact hL _ this
    have hcong : ∀ i, i ∈ L0.map (·.1) → f i = (fun i => if i = k then j else f i) i := fun i hi => by simp only [if_neg (hnk i hi)]
    have hpf : ∀ i, i ∈ L0.map (·.1) → p (f i) := fun i hi => by
      obtain ⟨e, he, rfl⟩ := List.mem_map.1 hi
      exact (hin.nm _ _ (hL2 e he)).1
    have := HCall.lift (N := [(k, o0)]) (U := L0') (f := fun i => if i = k then j else f i) (hc.mono fun _ _ _ h => h) hU (by simpa [hU] using hnd) hlt (fun i i' hi hi' e => by
        simp only [List.map_cons, List.cons_append, List.nil_append, hU, List.mem_cons] at hi hi'
        rcases hi with rfl | hi <;> rcases hi' with rfl | hi'
        · rfl
        · simp only [if_true, if_neg (hnk i' hi')] at e
          exact absurd (e ▸ hpf i' hi') hpj
        · simp only [if_true, if_neg (hnk i hi)] at e
          exact absurd (e ▸ hpf i hi) hpj
        · simp only [if_neg (hnk i hi), if_neg (hnk i' hi')] at e
          exact hinj i i' hi hi' e) hLf (by simpa [hU] using hLf') (by simpa [hU] using hr) ha ext β p h w vs hin (fun e he => by
        have h1 : e.1 ∈ L0.map (·.1) := List.mem_map.2 ⟨e, he, rfl⟩
        rw [if_neg (hnk e.1 h1), hL2 e he, renO_congr hcong (hLf e he)]) (fun e he => by
        simp only [List.mem_cons, List.not_mem_nil, or_false] at he
        subst he
        simpa using hpj) (by simpa using hsz) (by
        have : args0.map (renA fun i => if i = k then j else f i) = args0.map (renA f) := List.map_congr_left fun x hx => (renA_congr hcong (ha x hx)).symm
        rw [this]
        exact hrel)
    refine this.mono ?_
    rintro e w' ⟨v, β', h1, h2, h3, h4, h5, h6⟩
    simp only [renH, List.cons_append, List.nil_append, if_true, eL', er, eo] at h2 h3 h4 h5 h6
    have hq : ∀ i, (p i ∨ ∃ e, e ∈ [(k, o0)] ∧ i = if e.1 = k then j else f e.1) → p i ∨ i = j := fun i hi => hi.imp (fun h => h) fun ⟨e, he, e1⟩ => by
      simp only [List.mem_cons, List.not_mem_nil, or_false] at he
      subst he
      simpa using e1
    exact ⟨v, β', h1, HIn.mono hq h2, h3, Nm.mono hq h4, h5, h6⟩

/-- Less is known of the answer. -/
theorem FCall.res {P : Program} {g : FuncId} {args : List AVal} {L L' : Heap} {r r' : AVal} (hc : FCall P g args L r L') (f : Frz [] (fun _ => False) r r') : FCall P g args L r' L' :=
  ⟨hc.callable, hc.keys, fun ext β p h w vs h1 h2 h3 h4 => (hc.run ext β p h w vs h1 h2 h3 h4).mono fun e w' ⟨v, β', k1, k2, k3, k4, k5⟩ => ⟨v, β', k1, k2, f.same v k3, f.nmS k4, k5⟩⟩

section
variable {fl : Bool} {P : Program} {n0 : Nat} {all : Array Oper} {K : St → Prop}

theorem EffOp.of {tm : List AVal} {o : Oper} {c : Call} {g : FuncId} {args : List AVal} {L L' : Heap} {r : AVal} (ho : o.op = .call c) (ht : target tm c = some (g, args)) (hc : FCall P g args L r L') : EffOp P tm o (fun _ => r) L (fun _ => L') none := by
  intro n0 ext β p tmps h a w f hs hpf hev hL K Q hk
  have ht2 : target tmps c = some (g, args) := (target_agree ho hev).trans ht
  obtain ⟨vs, hrun, hsz, hrel⟩ := target_ok hs ho ht2 hc.callable
  unfold Oper.wp
  rw [hrun, Oper.upon_enter]
  refine (hc.run ext β p h w vs hs.heap hL hsz hrel).mono ?_
  rintro e w' ⟨v, β', rfl, h1, h2, h3, h4, h5⟩
  exact hk v w' β' (h1.mono fun j hj => .inl hj) h2 (h3.mono fun j hj => .inl hj) h4 h5

theorem EffOp.ofN {tm : List AVal} {o : Oper} {c : Call} {g : FuncId} {args : List AVal} {L : Heap} {L' : Nat → Heap} {r : Nat → AVal} {ob : Nat → Ob} (ho : o.op = .call c) (ht : target tm c = some (g, args)) (hc : FNCall P g args L r L' ob) : EffOp P tm o r L L' (some ob) := by
  intro n0 ext β p tmps h a w f hs hpf hev hL K Q hk
  have ht2 : target tmps c = some (g, args) := (target_agree ho hev).trans ht
  obtain ⟨vs, hrun, hsz, hrel⟩ := target_ok hs ho ht2 hc.callable
  unfold Oper.wp
  rw [hrun, Oper.upon_enter]
  refine (hc.run ext β p h w vs f hs.heap hpf hL hsz hrel).mono ?_
  rintro e w' ⟨v, β', rfl, h1, h2, h3, h4, h5⟩
  exact hk v w' β' h1 h2 h3 h4 h5

theorem SIn.le {ext : Nat → Prop} {β : Nat → Option Nat} {s : St} {a : Act} {w : World} (i : SIn n0 ext β s a w) : n0 ≤ s.nx := by
  rcases Nat.lt_or_ge s.nx n0 with h8 | h8
  · exact absurd (i.low s.nx h8) (Nat.lt_irrefl _)
  · exact h8

theorem AO_fcallE {o : Oper} {rest : List Oper} {i nx nx' : Nat} {tm tm' : List AVal} {hp hp' : Heap} {c : Call} {g : FuncId} {args : List AVal} {r : AVal} {L L' : Heap} (hg : guardA all tm o = some true) (ho : o.op = .call c) (ht : target tm c = some (g, args))
    (hc : FCall P g args L r L') (hL : allIn hp L) (hh : upds hp L' = hp') (htm : putT tm o.dst r = tm') (hn : nx + 1 = nx') (h : AO P n0 all rest (i + 1) K ⟨tm', hp', nx'⟩) : AO P n0 all (o :: rest) i K ⟨tm, hp, nx⟩ := by
  subst hh htm hn
  refine AO_cons fun ext β a w hs hoo Q' next hnext => ?_
  rw [guard_ok hs hg, if_pos rfl]
  refine .inl ?_
  refine EffOp.of ho ht hc n0 ext β _ tm hp a w nx hs (Nat.lt_irrefl _) (fun _ _ => rfl) (allIn_mem hL) _ _ fun v w' β' h1 h2 h3 h4 h5 => ?_
  have hlt : ∀ j, (Lt nx j ∨ j = nx) → Lt (nx + 1) j := fun j hj => by simp only [Lt] at *; omega
  exact hnext β' _ _ _ h (hs.put (HIn.mono hlt h1) (fun j hj => hlt j (.inl hj)) h5 h2 (h3.mono hlt) o.dst) ⟨h4, h5.weaken fun j hj => Nat.lt_of_lt_of_le hj hs.le⟩

theorem D_fcallE {nx : Nat} {o : Oper} {rest : List Oper} {i i' : Nat} {tm tm' : List AVal} {hp hp' : Heap} {tc tc' : List (Bool × List Nat)} {c : Call} {g : FuncId} {args : List AVal} {r : AVal} {L L' : Heap} (hg : guardA all tm o = some true) (ho : o.op = .call c) (ht : target tm c = some (g, args))
    (hc : FCall P g args L r L') (hL : allIn hp L) (hh : upds hp L' = hp') (htm : putT tm o.dst r = tm') (hn : i + 1 = i') (htc : tc ++ [(true, L.map (·.1))] = tc') (h : DW false P all nx K rest i' tm' hp' tc') : DW false P all nx K (o :: rest) i tm hp tc := by
  subst hh htm hn htc
  exact fun hd => let ⟨ho', hd'⟩ := drop_cons hd; .eff i tm hp tc o (fun _ => r) L (fun _ => L') none ho' hg rfl hc.keys (allIn_mem hL) (EffOp.of ho ht hc) (h hd')

theorem AO_fnE {o : Oper} {rest : List Oper} {i nx nx' : Nat} {tm tm' : List AVal} {hp hp' : Heap} {c : Call} {g : FuncId} {args : List AVal} {r : Nat → AVal} {y : AVal} {L : Heap} {L' : Nat → Heap} {ob : Nat → Ob} (hg : guardA all tm o = some true) (ho : o.op = .call c) (ht : target tm c = some (g, args))
    (hc : FNCall P g args L r L' ob) (hL : allIn hp L) (hy : r nx = y) (hh : (nx, ob nx) :: upds hp (L' nx) = hp') (htm : putT tm o.dst y = tm') (hn : nx + 1 = nx') (h : AO P n0 all rest (i + 1) K ⟨tm', hp', nx'⟩) : AO P n0 all (o :: rest) i K ⟨tm, hp, nx⟩ := by
  subst hh htm hn hy
  refine AO_cons fun ext β a w hs hoo Q' next hnext => ?_
  rw [guard_ok hs hg, if_pos rfl]
  refine .inl ?_
  refine EffOp.ofN ho ht hc n0 ext β _ tm hp a w nx hs (Nat.lt_irrefl _) (fun _ _ => rfl) (allIn_mem hL) _ _ fun v w' β' h1 h2 h3 h4 h5 => ?_
  have hlt : ∀ j, (Lt nx j ∨ j = nx) → Lt (nx + 1) j := fun j hj => by simp only [Lt] at *; omega
  exact hnext β' _ _ _ h (hs.put (HIn.mono hlt h1) (fun j hj => hlt j (.inl hj)) h5 h2 (h3.mono hlt) o.dst) ⟨h4, h5.weaken fun j hj => Nat.lt_of_lt_of_le hj hs.le⟩

theorem D_fnE {nx : Nat} {o : Oper} {rest : List Oper} {i i' id : Nat} {tm tm' : List AVal} {hp hp' : Heap} {tc tc' : List (Bool × List Nat)} {c : Call} {g : FuncId} {args : List AVal} {r : Nat → AVal} {y : AVal} {L : Heap} {L' : Nat → Heap} {ob : Nat → Ob} (hg : guardA all tm o = some true) (ho : o.op = .call c) (ht : target tm c = some (g, args))
    (hc : FNCall P g args L r L' ob) (hL : allIn hp L) (hid : nx + i = id) (hy : r id = y) (hh : (id, ob id) :: upds hp (L' id) = hp') (htm : putT tm o.dst y = tm') (hn : i + 1 = i') (htc : tc ++ [(true, L.map (·.1))] = tc') (h : DW false P all nx K rest i' tm' hp' tc') : DW false P all nx K (o :: rest) i tm hp tc := by
  subst hh htm hn htc hy hid
  exact fun hd => let ⟨ho', hd'⟩ := drop_cons hd; .eff i tm hp tc o r L L' (some ob) ho' hg rfl (hc.keys _) (allIn_mem hL) (EffOp.ofN ho ht hc) (h hd')

theorem AO_bornE {o : Oper} {rest : List Oper} {i nx nx' n : Nat} {tm tm' : List AVal} {hp hp' N : Heap} {c : Call} {g : FuncId} {args : List AVal} {r y : AVal} (hg : guardA all tm o = some true) (ho : o.op = .call c) (ht : target tm c = some (g, args))
    (hc : NCall P g args r N n) (hy : renA (fun i => nx + i) r = y) (hh : renH (fun i => nx + i) N ++ hp = hp') (htm : putT tm o.dst y = tm') (hn : nx + n = nx') (h : AO P n0 all rest (i + 1) K ⟨tm', hp', nx'⟩) : AO P n0 all (o :: rest) i K ⟨tm, hp, nx⟩ := by
  subst hh htm hn hy
  refine AO_cons fun ext β a w hs hoo Q' next hnext => ?_
  rw [guard_ok hs hg, if_pos rfl]
  refine .inl ?_
  obtain ⟨vs, hrun, hsz, hrel⟩ := target_ok hs ho ht hc.hc.callable
  unfold Oper.wp
  rw [hrun, Oper.upon_enter]
  have hargs : args.map (renA fun i => nx + i) = args := by
    conv => rhs; rw [← List.map_id args]
    exact List.map_congr_left fun x hx => renA_fz (hc.fz x hx)
  have := HCall.lift (N := N) (U := []) (L := []) (f := fun i => nx + i) (hc.hc.mono fun _ _ _ ⟨h1, h2⟩ => ⟨h1, by simpa using h2⟩) rfl (by simpa using hc.nd) (fun e he => by cases he) (fun i j _ _ e => by simpa using e) (fun e he => by cases he)
    (by simpa using hc.ob) (by simpa using hc.res) (fun x hx => .leaf x (.fz x (hc.fz x hx))) ext β (Lt nx) hp w vs hs.heap (fun e he => by cases he) (fun e he h => by simp only [Lt] at h; omega) hsz (by rw [hargs]; exact hrel)
  refine this.mono ?_
  rintro e w' ⟨v, β', rfl, h2, h3, h4, h5, h6⟩
  have hq : ∀ j, (Lt nx j ∨ ∃ e, e ∈ N ∧ j = nx + e.1) → Lt (nx + n) j := fun j hj => by
    rcases hj with hj | ⟨e, he, rfl⟩
    · simp only [Lt] at *; omega
    · have := hc.lt e he
      simp only [Lt]
      omega
  exact hnext β' _ _ _ h (hs.put (HIn.mono hq h2) (fun j hj => hq j (.inl hj)) h6 h3 (h4.mono hq) o.dst) ⟨h5, h6.weaken fun j hj => Nat.lt_of_lt_of_le hj hs.le⟩

end

/-! ### What is named -/
theorem lf_ref (S : Nat → Prop) (id sz b len : Nat) (ex : Bool) (c : Nat) : Lf S (.ref id sz b len ex c) ↔ S id := ⟨fun h => by
  cases h with
  | ref _ _ _ _ _ _ h => exact h
  | fz _ h => cases h with | ref _ _ _ _ _ _ h => exact h.elim, fun h => .ref _ _ _ _ _ _ h⟩
theorem lf_ptr (S : Nat → Prop) (id sz r c : Nat) : Lf S (.ptr id sz r c) ↔ S id := ⟨fun h => by
  cases h with
  | ptr _ _ _ _ h => exact h
  | fz _ h => cases h with | ptr _ _ _ _ h => exact h.elim, fun h => .ptr _ _ _ _ h⟩
theorem lf_mapv (S : Nat → Prop) (id : Nat) : Lf S (.mapv id) ↔ S id := ⟨fun h => by
  cases h with
  | mapv _ h => exact h
  | fz _ h => cases h with | mapv _ h => exact h.elim, fun h => .mapv _ h⟩
theorem lf_int (S : Nat → Prop) (k : IntKind) (n : Int) : Lf S (.int k n) ↔ True := ⟨fun _ => trivial, fun _ => .fz _ (.int k n)⟩
theorem lf_bool (S : Nat → Prop) (b : Bool) : Lf S (.bool b) ↔ True := ⟨fun _ => trivial, fun _ => .fz _ (.bool b)⟩
theorem lf_str (S : Nat → Prop) (s : ByteArray) : Lf S (.str s) ↔ True := ⟨fun _ => trivial, fun _ => .fz _ (.str s)⟩
theorem lf_nilp (S : Nat → Prop) : Lf S .nilp ↔ True := ⟨fun _ => trivial, fun _ => .fz _ .nilp⟩
theorem lf_rws {α : Type} [Enc α] (S : Nat → Prop) (l : List α) (lim : Option Nat) : Lf S (.sl (rws l) lim) ↔ True := ⟨fun _ => trivial, fun _ => .fz _ (.sl _ _ (rws_mem l))⟩
theorem lf_nil (S : Nat → Prop) (lim : Option Nat) : Lf S (.sl [] lim) ↔ True := ⟨fun _ => trivial, fun _ => .fz _ (.sl _ _ fun r hr => by cases hr)⟩
theorem lf_aggE {α : Type} [Enc α] (S : Nat → Prop) (x : α) : Lf S (.agg (Enc.enc x)) ↔ True := ⟨fun _ => trivial, fun _ => .fz _ (.agg _ fun y hy => Enc.fz x y hy)⟩
theorem lf_enc {α : Type} [Enc α] (S : Nat → Prop) (x : α) : (∀ y, y ∈ Enc.enc x → Lf S y) ↔ True := ⟨fun _ => trivial, fun _ y hy => .fz _ (Enc.fz x y hy)⟩
theorem lfO_rws {α : Type} [Enc α] (S : Nat → Prop) (k : Nat) (l : List α) : LfO S (.arr k (rws l)) ↔ True := ⟨fun _ => trivial, fun _ r hr x hx => .fz _ (rws_mem l r hr x hx)⟩
theorem lfO_ri (S : Nat → Prop) (k : Nat) (l : List Int) : LfO S (.arr k (ri l)) ↔ True := ⟨fun _ => trivial, fun _ r hr x hx => by
  obtain ⟨n, _, rfl⟩ := List.mem_map.1 hr
  simp at hx
  subst hx
  exact .fz _ (.int _ _)⟩
theorem lfO_row (S : Nat → Prop) (k : Nat) (cs : List AVal) : LfO S (.arr k [cs]) ↔ ∀ c, c ∈ cs → Lf S c := by simp [LfO]
theorem lfO_mpe (S : Nat → Prop) (M : IM) (c : Nat) : LfO S (.mp ⟨mpe M, c⟩) ↔ True := ⟨fun _ => trivial, fun _ e he => by
  simp only [mpe, List.mem_map] at he
  obtain ⟨q, _, rfl⟩ := he
  exact ⟨.int _ _, .int _ _⟩⟩
theorem lfA_leaf {S : Nat → Prop} {x : AVal} (h : Lf S x) : LfA S x := .leaf x h
theorem lfA_tup (S : Nat → Prop) (cs : List AVal) (h : ∀ c, c ∈ cs → Lf S c) : LfA S (.tuple cs) := .tuple cs fun c hc => .leaf c (h c hc)

theorem ren_rws {α : Type} [Enc α] (f : Nat → Nat) (l : List α) : (rws l).map (fun r => r.map (ren0 f)) = rws l := by
  conv => rhs; rw [← List.map_id (rws l)]
  refine List.map_congr_left fun r hr => ?_
  conv => rhs; rw [id, ← List.map_id r]
  exact List.map_congr_left fun x hx => ren0_fz (rws_mem l r hr x hx)
theorem ren_ri (f : Nat → Nat) (l : List Int) : (ri l).map (fun r => r.map (ren0 f)) = ri l := by
  simp [ri, ren0]
theorem ren_enc {α : Type} [Enc α] (f : Nat → Nat) (x : α) : (Enc.enc x).map (ren0 f) = Enc.enc x := by
  conv => rhs; rw [← List.map_id (Enc.enc x)]
  exact List.map_congr_left fun y hy => ren0_fz (Enc.fz x y hy)

section
variable {P : Program}
theorem retF_of {rs : List ResultVar} {s : St} {xs : List AVal} {r1 : AVal} {h1 : Heap} (h : resAs P s rs = some xs) (h2 : packA xs = r1) (h3 : ∀ id o, lk h1 id = some o → lk s.h id = some o) : retH P rs (fun r h _ => r = r1 ∧ h = h1) .ret s := ⟨xs, h1, h, h3, h2, rfl⟩
theorem retFN_of {rs : List ResultVar} {s : St} {xs : List AVal} {r1 : AVal} {h1 : Heap} (h : resAs P s rs = some xs) (h2 : packA xs = r1) (h3 : ∀ id o, lk h1 id = some o → lk s.h id = some o) : retH P rs (fun r h _ => r = r1 ∧ h = h1) .normal s := ⟨xs, h1, h, h3, h2, rfl⟩
end
section
variable {P : Program}
theorem Can.unbornO {n0 : Nat} {s : St} {tm tm' : List AVal} {hp hp' : Heap} {nx nx' : Nat} (id esz esz0 : Nat) (xs ys : List (List AVal)) (hl : lk hp id = some (.arr esz0 xs)) (hr : NewR nx xs ys) (ht : NewL nx tm tm') (e : (nx, Ob.arr esz []) :: hset hp id (.arr esz0 ys) = hp') (hn : nx + 1 = nx') (h : Can n0 ⟨tm', hp', nx'⟩ s) : Can n0 ⟨tm, hp, nx⟩ s := by
  subst e hn
  intro ext β a w i
  obtain ⟨β1, i1, g1⟩ := i.unbornO (esz := esz) hl hr ht
  obtain ⟨β2, i2, g2⟩ := h ext β1 a w i1
  exact ⟨β2, i2, g1.trans g2⟩

/-- As retH; the state at the end may be taken for another one. -/
def retC (P : Program) (n0 : Nat) (rs : List ResultVar) (Q : AVal → Heap → Nat → Prop) (e : Exit) (s : St) : Prop := ∃ s', Can n0 s s' ∧ retH P rs Q e s'

theorem HCall_introC {g : FuncId} {args : List AVal} {h : Heap} {nx : Nat} {Q : AVal → Heap → Nat → Prop} {fn : Func} {c : Code} (hf : P.funcs[g]? = some fn) (hb : fn.body = some c) (hname : (fn.name == "runtime.NumGoroutine") = false)
    (hw : AWP P nx c (retC P nx fn.results.toList Q) ⟨args ++ List.replicate (fn.ntmps - args.length) .junk, h, nx⟩) : HCall P g args h nx Q := by
  refine HCall_intro hf hb hname fun ext β a w i => wp_mono (hw ext β a w i) ?_
  rintro e a2 w2 ⟨β2, s2, ⟨s3, hc, q⟩, i2, g2⟩
  obtain ⟨β3, i3, g3⟩ := hc ext β2 a2 w2 i2
  exact ⟨β3, s3, q, i3, g2.trans g3⟩
theorem Can.refl {n0 : Nat} (s : St) : Can n0 s s := fun ext β a w i => ⟨β, i, Goes.refl n0 ext β s.h w⟩
end
theorem Zrf {p : Prop} (h : p := by
    first
      | ((with_reducible first | apply retF_of | (refine N_nil ?_; apply retFN_of)); (case h => (simp (disch := omega) only [go_sem]; exact rfl)); (case h2 => first | exact rfl | (simp (disch := omega) only [go_sem]; exact rfl)); (case h3 => exact wkH))
      | fail) : p := h

/-- Three numbers. -/
def num3 (a b c : Nat) : Nat → Nat
  | 0 => a
  | 1 => b
  | _ => c
def num4 (a b c d : Nat) : Nat → Nat
  | 0 => a
  | 1 => b
  | 2 => c
  | _ => d

theorem Zfc {p q : Prop} {A : Prop} (c : A) (hq : q) (h : A → Held q → p := by
    intro c h
    first
      | ((with_reducible first | apply AO_fcallE | apply D_fcallE); (case hg => exact gT); (case ho => exact rfl); (case ht => exact rfl); (case hc => exact c); (case hL => first | (simp (disch := omega) only [allIn, go_sem]; done) | fail); (case hh => (simp (disch := omega) only [upds, go_sem]; exact rfl)); (case htm => exact pT); (case hn => exact nT); (try case htc => exact rfl); (case h => exact h.out))
      | fail) : p := h c ⟨hq⟩
theorem Zfn {p q : Prop} {A : Prop} (c : A) (hq : q) (h : A → Held q → p := by
    intro c h
    first
      | ((with_reducible first | apply AO_fnE | apply D_fnE); (case hg => exact gT); (case ho => exact rfl); (case ht => exact rfl); (case hc => exact c); (try case hid => exact nT); (case hL => first | (simp (disch := omega) only [allIn, go_sem]; done) | fail); (case hy => exact rfl); (case hh => (simp (disch := omega) only [upds, go_sem]; exact rfl)); (case htm => exact pT); (case hn => exact nT); (try case htc => exact rfl); (case h => exact h.out))
      | fail) : p := h c ⟨hq⟩
theorem Zbn {p q : Prop} {A : Prop} (c : A) (hq : q) (h : A → Held q → p := by
    intro c h
    first
      | ((with_reducible apply AO_bornE); (case hg => exact gT); (case ho => exact rfl); (case ht => exact rfl); (case hc => exact c); (case hy => first | (simp (disch := omega) only [renA, ren1, ren0, List.map_cons, List.map_nil, go_sem]; exact rfl) | exact rfl); (case hh => (simp (disch := omega) only [renH, renO, ren0, ren_rws, ren_ri, List.map_cons, List.map_nil, List.cons_append, List.nil_append, go_sem]; exact rfl)); (case htm => exact pT); (case hn => exact nT); (case h => exact h.out))
      | fail) : p := h c ⟨hq⟩
end Go.AM
end
