/-
  AM, part 50: objects of the caller's that a function works on, whatever else there is; lists that begin as nil inside an object.
-/
import Derived.Test.YtfbmbjfcgoahfaaAM48
set_option linter.unusedVariables false
namespace Go.AM
open Go

/-! ### Setting and looking up -/

theorem hset_same {i : Nat} {o q : Ob} : ∀ h : Heap, hset (hset h i o) i q = hset h i q
  | [] => rfl
  | (j, x) :: h => by
    simp only [hset]
    by_cases e : j = i
    · simp [hset, e]
    · simp only [if_neg e, hset]
      rw [hset_same h]

theorem hset_comm {i j : Nat} {o q : Ob} (hne : ¬ i = j) : ∀ h : Heap, hset (hset h i o) j q = hset (hset h j q) i o
  | [] => rfl
  | (k, x) :: h => by
    simp only [hset]
    by_cases e1 : k = i
    · subst e1
      simp [hset, hne]
    · by_cases e2 : k = j
      · subst e2
        simp [hset, e1]
      · simp only [if_neg e1, if_neg e2, hset]
        rw [hset_comm hne h]

theorem lk_set_ne {i j : Nat} {o : Ob} (hne : ¬ j = i) : ∀ h : Heap, lk (hset h i o) j = lk h j
  | [] => rfl
  | (k, x) :: h => by
    simp only [hset]
    by_cases e1 : k = i
    · subst e1
      have : ¬ k = j := fun e => hne e.symm
      simp [lk, this]
    · simp only [if_neg e1, lk]
      rw [lk_set_ne hne h]

theorem lk_set_eq {i : Nat} {o o0 : Ob} {h : Heap} (hl : lk h i = some o0) : lk (hset h i o) i = some o := by rw [lk_hset o hl, if_pos rfl]

theorem hset_id {i : Nat} {o : Ob} : ∀ {h : Heap}, lk h i = some o → hset h i o = h
  | [], hl => rfl
  | (k, x) :: h, hl => by
    simp only [lk] at hl
    simp only [hset]
    by_cases e : k = i
    · rw [if_pos e] at hl ⊢
      injection hl with hl
      rw [hl]
    · rw [if_neg e] at hl ⊢
      rw [hset_id hl]

section
variable {P : Program}

/-- Nothing is left behind but what the caller had: the next number is the caller's. -/
theorem HCall.low {g : FuncId} {args : List AVal} {h h' : Heap} {nx : Nat} {r : AVal} (c : HCall P g args h nx fun r' h2 _ => r' = r ∧ h2 = h')
    (hn : (∀ id o, lk h id = some o → id < nx ∧ o.nm (Lt nx)) → ∀ id o, lk h' id = some o → id < nx ∧ o.nm (Lt nx)) (hr : Nm (Lt nx) r) : HCall P g args h nx fun r' h2 n => r' = r ∧ h2 = h' ∧ n = nx := by
  refine ⟨c.callable, fun ext β w vs h1 h2 h3 h4 => (c.run ext β w vs h1 h2 h3 h4).mono ?_⟩
  rintro e w' ⟨v, r', β', h2', nx', he, ⟨rfl, rfl⟩, hle, hin, hnm, hv, hev, hst⟩
  exact ⟨v, r', β', h2', nx, he, ⟨rfl, rfl, rfl⟩, Nat.le_refl _, ⟨hin.ob, hn h1.nm, hin.inj, hin.ext⟩, hr, hv, hev, hst⟩

variable {n0 : Nat} {Q : Exit → St → Prop} {k : List It}

/-- Lists of nothing at all inside an object, or in slots, become ones of an object that is not there yet. -/
def NewC (j : Nat) : List AVal → List AVal → Prop := NewL j
def NewR (j : Nat) : List (List AVal) → List (List AVal) → Prop
  | [], [] => True
  | x :: xs, y :: ys => NewL j x y ∧ NewR j xs ys
  | _, _ => False

theorem NewR.get {j : Nat} : ∀ {xs ys : List (List AVal)}, NewR j xs ys → ys.length = xs.length ∧ ∀ (k : Nat) x y, xs[k]? = some x → ys[k]? = some y → NewL j x y
  | [], [], _ => ⟨rfl, fun k x y hx => by simp at hx⟩
  | x :: xs, y :: ys, f => by
    obtain ⟨h1, h2⟩ := NewR.get f.2
    refine ⟨by simp [h1], fun k a b ha hb => ?_⟩
    cases k with
    | zero => simp at ha hb; subst ha; subst hb; exact f.1
    | succ k => exact h2 k a b (by simpa using ha) (by simpa using hb)
  | [], _ :: _, f => f.elim
  | _ :: _, [], f => f.elim

theorem new_rel {j : Nat} {c d : Cx} {p : Nat → Prop} (st : Step p c d) (hz : ∀ v, VRel c (.sl [] (some 0)) v → VRel d (.ref j 0 0 0 false 0) v) {x y : AVal} (h : y = x ∨ y = .junk ∨ (x = .sl [] (some 0) ∧ y = .ref j 0 0 0 false 0)) (hx : Nm p x) : ∀ v, VRel c x v → VRel d y v := by
  intro v hv
  rcases h with rfl | rfl | ⟨rfl, rfl⟩
  · exact hv.step st hx
  · exact .junk v
  · exact hz v hv

theorem new_nm {j : Nat} {p q : Nat → Prop} (hpq : ∀ i, p i → q i) (hj : q j) {x y : AVal} (h : y = x ∨ y = .junk ∨ (x = .sl [] (some 0) ∧ y = .ref j 0 0 0 false 0)) (hx : Nm p x) : Nm q y := by
  rcases h with rfl | rfl | ⟨rfl, rfl⟩
  · exact hx.mono hpq
  · exact .junk
  · exact .ref _ _ _ _ _ _ hj

theorem SIn.unbornO {ext : Nat → Prop} {β : Nat → Option Nat} {tm tm' : List AVal} {h : Heap} {nx id esz0 esz : Nat} {xs ys : List (List AVal)} {a : Act} {w : World} (i : SIn n0 ext β ⟨tm, h, nx⟩ a w) (hl : lk h id = some (.arr esz0 xs)) (hr : NewR nx xs ys) (ht : NewL nx tm tm') :
    ∃ β', SIn n0 ext β' ⟨tm', (nx, .arr esz []) :: hset h id (.arr esz0 ys), nx + 1⟩ a w ∧ Goes n0 ext β h w β' ((nx, .arr esz []) :: hset h id (.arr esz0 ys)) w := by
  obtain ⟨h1, h2, h3⟩ := i.heap.unborn (fresh := nx) (fun h => Nat.lt_irrefl _ h) esz
  have hlow : n0 ≤ nx := by
    rcases Nat.lt_or_ge nx n0 with h8 | h8
    · exact absurd (i.low nx h8) (Nat.lt_irrefl _)
    · exact h8
  have hidn : id < nx := (i.heap.nm id _ hl).1
  have hq : ∀ j, (Lt nx j ∨ j = nx) → Lt (nx + 1) j := fun j hj => by simp only [Lt] at *; omega
  have hq' : ∀ j, Lt nx j → Lt (nx + 1) j := fun j hj => hq j (.inl hj)
  refine ⟨fun j => if j = nx then none else β j, ?_⟩
  -- the heap with the new object, and the old one in it
  have hk : ∀ j, lk ((nx, Ob.arr esz []) :: hset h id (.arr esz0 ys)) j = if j = nx then some (.arr esz []) else if j = id then some (.arr esz0 ys) else lk h j := fun j => by
    rw [lk_cons, lk_hset _ hl]
  have hk0 : ∀ j, lk ((nx, Ob.arr esz []) :: h) j = if j = nx then some (.arr esz []) else lk h j := fun j => lk_cons _ _ _ _
  have back : ∀ {j o'}, lk ((nx, Ob.arr esz []) :: hset h id (.arr esz0 ys)) j = some o' → ∃ o, lk ((nx, Ob.arr esz []) :: h) j = some o ∧ (o' = o ∨ (j = id ∧ o = .arr esz0 xs ∧ o' = .arr esz0 ys)) := by
    intro j o' e
    rw [hk] at e
    rw [hk0]
    split at e
    · rename_i hj
      rw [if_pos hj]
      exact ⟨_, e, .inl rfl⟩
    · rename_i hj
      rw [if_neg hj]
      split at e
      · rename_i hj2
        subst hj2
        injection e with e
        exact ⟨_, hl, .inr ⟨rfl, rfl, e.symm⟩⟩
      · exact ⟨_, e, .inl rfl⟩
  have hown : ∀ b, owns (fun j => if j = nx then none else β j) ((nx, .arr esz []) :: hset h id (.arr esz0 ys)) b → owns (fun j => if j = nx then none else β j) ((nx, .arr esz []) :: h) b := fun b ⟨j, o', e1, e2⟩ => let ⟨o, e3, _⟩ := back e1; ⟨j, o, e3, e2⟩
  have st : ∀ p : Nat → Prop, Step p (cx ext (fun j => if j = nx then none else β j) ((nx, .arr esz []) :: h) w) (cx ext (fun j => if j = nx then none else β j) ((nx, .arr esz []) :: hset h id (.arr esz0 ys)) w) := fun p =>
    { cell := fun b o v h1 h2 => ⟨fun h3 => h1 (h3.imp (fun e => e) (hown b)), h2⟩
      shape := fun _ _ h => h
      arr := fun j _ esz' rows hr' => by
        obtain ⟨o, h1, h2⟩ := back hr'
        rcases h2 with h2 | ⟨_, h2, h3⟩
        · exact ⟨rows, by rw [h2]; exact h1, Nat.le_refl _, fun _ => rfl⟩
        · injection h3 with h3 h4
          subst h3
          subst h4
          subst h2
          exact ⟨xs, h1, Nat.le_of_eq hr.get.1.symm, fun _ => rfl⟩
      mp := fun j _ es hr' => by
        obtain ⟨o, h1, h2⟩ := back hr'
        rcases h2 with h2 | ⟨_, _, h3⟩
        · exact ⟨es, by rw [h2]; exact h1, rfl⟩
        · cases h3 }
  have hz : ∀ v, VRel (cx ext β h w) (.sl [] (some 0)) v → VRel (cx ext (fun j => if j = nx then none else β j) ((nx, .arr esz []) :: hset h id (.arr esz0 ys)) w) (.ref nx 0 0 0 false 0) v := fun v hv => by
    cases hv with | sl _ _ a1 cap esz1 blk off vals hcap hlim _ _ _ _ =>
    have hc := hlim 0 rfl
    subst hc
    refine .ref nx 0 0 0 false 0 a1 0 (Nat.le_refl _) (Nat.le_refl _) (fun h => by cases h) fun esz2 rows2 hr => ?_
    exact ⟨Nat.zero_le _, fun _ => ⟨Nat.le_refl _, .inl rfl⟩⟩
  have stT : Step (Lt nx) (cx ext β h w) (cx ext (fun j => if j = nx then none else β j) ((nx, .arr esz []) :: hset h id (.arr esz0 ys)) w) := by
    refine ⟨fun b o v e1 e2 => ?_, fun _ _ e => e, fun j hj esz' rows e => ?_, fun j hj es e => ?_⟩
    · have := h3.cell b o v e1 e2
      exact (st (Lt nx)).cell b o v this.1 this.2
    · obtain ⟨r2, e1, e2, e3⟩ := (st (Lt nx)).arr j hj esz' rows e
      obtain ⟨r3, e4, e5, e6⟩ := h3.arr j hj esz' r2 e1
      exact ⟨r3, e4, Nat.le_trans e5 e2, fun e7 => (e3 (by omega)).trans (e6 (by omega))⟩
    · obtain ⟨r2, e1, e2⟩ := (st (Lt nx)).mp j hj es e
      obtain ⟨r3, e4, e5⟩ := h3.mp j hj r2 e1
      exact ⟨r3, e4, e2.trans e5⟩
  obtain ⟨hlen, hget⟩ := ht.get
  refine ⟨⟨⟨fun j o' hj => ?_, fun j o' hj => ?_, fun j j' o o' b e1 e2 e3 e4 => ?_, fun b hb => ⟨(i.heap.ext b hb).1, fun e => (h1.ext b hb).2 (hown b e)⟩⟩, by rw [i.size]; exact hlen.symm, fun k y v hy hv => ?_, fun y hy => ?_, i.defers, fun j hj => hq' j (i.low j hj)⟩, ⟨?_, stT.weaken fun j hj => Nat.lt_of_lt_of_le hj hlow⟩⟩
  · obtain ⟨o, e1, e2⟩ := back hj
    have e3 := (h1.nm j o e1).2
    rcases e2 with rfl | ⟨rfl, rfl, rfl⟩
    · exact ObIn.step (st _) rfl (fun _ _ => rfl) e3 (h1.ob j o' e1)
    · obtain ⟨e4, e5⟩ := i.heap.ob j _ hl
      have hnmx := (i.heap.nm j _ hl).2
      refine ⟨fun r' hr' => ?_, ?_⟩
      · obtain ⟨m, hm⟩ := mem_get hr'
        obtain ⟨r, hr0⟩ := get_of_len hr.get.1 hm
        rw [(hr.get.2 m r r' hr0 hm).get.1]
        exact e4 r (List.mem_of_getElem? hr0)
      · have hne : ¬ j = nx := by omega
        show match (if j = nx then none else β j) with | none => _ | some b => _
        rw [if_neg hne]
        have e5' : match β j with | none => xs = [] | some b => _ := e5
        cases hb : β j with
        | none =>
          simp only [hb] at e5' ⊢
          subst e5'
          have := hr.get.1
          exact List.length_eq_zero_iff.1 (by simpa using this)
        | some b =>
          simp only [hb] at e5' ⊢
          obtain ⟨cs, e', h6, h7, h8⟩ := e5'
          refine ⟨cs, e', h6, by rw [hr.get.1]; exact h7, fun m r' q x' hr' hx' => ?_⟩
          obtain ⟨r, hr0⟩ := get_of_len hr.get.1 hr'
          have fc := (hr.get.2 m r r' hr0 hr').get
          obtain ⟨x, hx⟩ := get_of_len fc.1 hx'
          obtain ⟨v, h11, h12, h13⟩ := h8 m r q x hr0 hx
          exact ⟨v, h11, h12, new_rel stT hz (fc.2 q x x' hx hx') (hnmx r (List.mem_of_getElem? hr0) x (List.mem_of_getElem? hx)) v h13⟩
  · obtain ⟨o, e1, e2⟩ := back hj
    have e3 := h1.nm j o e1
    rcases e2 with rfl | ⟨rfl, rfl, rfl⟩
    · exact ⟨hq j e3.1, Ob.nm_mono hq e3.2⟩
    · have hnmx := i.heap.nm j _ hl
      refine ⟨hq' j hnmx.1, fun r' hr' x' hx' => ?_⟩
      obtain ⟨m, hm⟩ := mem_get hr'
      obtain ⟨r, hr0⟩ := get_of_len hr.get.1 hm
      have fc := (hr.get.2 m r r' hr0 hm).get
      obtain ⟨q, hq0⟩ := mem_get hx'
      obtain ⟨x, hx⟩ := get_of_len fc.1 hq0
      exact new_nm hq' (Nat.lt_succ_self nx) (fc.2 q x x' hx hq0) (hnmx.2 r (List.mem_of_getElem? hr0) x (List.mem_of_getElem? hx))
  · obtain ⟨o1, f1, _⟩ := back e1
    obtain ⟨o2, f2, _⟩ := back e2
    exact h1.inj j j' o1 o2 b f1 f2 e3 e4
  · obtain ⟨x, hx⟩ := get_of_len hlen hy
    exact new_rel stT hz (hget k x y hx hy) (i.nm x (List.mem_of_getElem? hx)) v (i.rel k x v hx hv)
  · obtain ⟨k, hk2⟩ := mem_get hy
    obtain ⟨x, hx⟩ := get_of_len hlen hk2
    exact new_nm hq' (Nat.lt_succ_self nx) (hget k x y hx hk2) (i.nm x (List.mem_of_getElem? hx))
  · exact ⟨h2.size, h2.keep, fun b hb hb2 => h2.fresh b hb (hown b hb2), h2.shape, h2.rest⟩

theorem W_unbornO {c : Code} {tm tm' : List AVal} {hp hp' : Heap} {nx nx' : Nat} (id esz esz0 : Nat) (xs ys : List (List AVal)) (hl : lk hp id = some (.arr esz0 xs)) (hr : NewR nx xs ys) (ht : NewL nx tm tm') (e : (nx, Ob.arr esz []) :: hset hp id (.arr esz0 ys) = hp') (hn : nx + 1 = nx') (h : AWP P n0 c (unw P n0 k Q) ⟨tm', hp', nx'⟩) : AWP P n0 c (unw P n0 k Q) ⟨tm, hp, nx⟩ := by
  subst e
  subst hn
  intro ext β a w i
  obtain ⟨β', i2, g2⟩ := i.unbornO (esz := esz) hl hr ht
  exact wp_mono (h ext β' a w i2) fun _ _ _ p => p.after g2

end
end Go.AM
