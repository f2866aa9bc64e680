/-
  AM, part 19: the rule for a row whose order is drawn.
-/
import Derived.Test.YtfbmbjfcgoahfaaAM18
set_option linter.unusedSimpArgs false
namespace Go.AM
open Go

section
variable {fl : Bool} {P : Program} {n0 : Nat} {all : Array Oper} {nx : Nat} {tm : Nat → List AVal} {hp : Nat → Heap} {tc : Nat → Bool × List Nat}

/-- The objects that are there, when some of the operations have been done. -/
def pD (all : Array Oper) (nx : Nat) (D : Nat → Prop) : Nat → Prop := fun id => id < nx ∨ ∃ k, k < all.size ∧ D k ∧ id = nx + k

theorem ev_agree {all : Array Oper} {o : Oper} {t1 t2 : List AVal} (h : ∀ t, t ∈ o.looksAt all → t1[t]? = t2[t]?) (x : Operand) (hx : x ∈ o.op.operands) : ev t1 x = ev t2 x := by
  cases x with
  | tmp t =>
    simp only [ev, List.getD_eq_getElem?_getD]
    rw [h t (by unfold Oper.looksAt; exact List.mem_append_left _ (List.mem_filterMap.2 ⟨.tmp t, by simpa using hx, rfl⟩))]
  | const v => rfl
  | global g => rfl
  | func f => rfl

theorem guard_agree {all : Array Oper} {o : Oper} {t1 t2 : List AVal} (h : ∀ t, t ∈ o.looksAt all → t1[t]? = t2[t]?) : guardA all t1 o = guardA all t2 o := by
  unfold guardA
  cases hg : o.guard with
  | none => rfl
  | some q =>
    obtain ⟨j, want⟩ := q
    simp only []
    cases hd : (all[j]?).bind (·.dst) with
    | none => rfl
    | some d =>
      simp only [List.getD_eq_getElem?_getD]
      rw [h d (by unfold Oper.looksAt; refine List.mem_append_right _ ?_; rw [hg]; simp [hd])]

theorem target_agree {o : Oper} {c : Call} (ho : o.op = .call c) {t1 t2 : List AVal} (h : ∀ x, x ∈ o.op.operands → ev t1 x = ev t2 x) : target t1 c = target t2 c := by
  unfold target
  cases hc : c.callee with
  | value f =>
    simp only []
    have hf : ev t1 f = ev t2 f := h f (by rw [ho]; simp [Op.operands, Call.operands, hc])
    have ha : evs t1 c.args = evs t2 c.args := List.map_congr_left fun x hx => h x (by rw [ho]; simp [Op.operands, Call.operands]; exact .inr (by simpa using hx))
    rw [hf, ha]
  | invoke r m => rfl
  | builtin b => rfl

theorem Frz.loc {h1 h2 : Heap} {L : List Nat} (hl : ∀ id, id ∈ L → lk h1 id = lk h2 id) {x y : AVal} (f : Frz h1 (· ∈ L) x y) : Frz h2 (· ∈ L) x y := by
  induction f with
  | refl x => exact .refl x
  | ref id sz base len ex c esz rows rows' lim hS hk hsz hlen hlim hrow hrel ih => exact .ref id sz base len ex c esz rows rows' lim hS (by rw [← hl id hS]; exact hk) hsz hlen hlim hrow ih
  | ptr id sz row col esz rows r cells hS hk hsz hr hlen hrel ih => exact .ptr id sz row col esz rows r cells hS (by rw [← hl id hS]; exact hk) hsz hr hlen ih
  | agg xs ys hlen hrel ih => exact .agg xs ys hlen ih
  | tuple xs ys hlen hrel ih => exact .tuple xs ys hlen ih
  | func fn xs ys us vs hlen hlen' hrel hrel' ih ih' => exact .func fn xs ys us vs hlen hlen' ih ih'
  | iface t x y hrel ih => exact .iface t x y ih
  | sl rows rows' lim hlen hrow hrel ih => exact .sl rows rows' lim hlen hrow ih

theorem Frz.none {h : Heap} {x y : AVal} (f : Frz h (· ∈ ([] : List Nat)) x y) (h2 : Heap) : Frz h2 (fun _ => False) x y := by
  induction f with
  | refl x => exact .refl x
  | ref id sz base len ex c esz rows rows' lim hS hk hsz hlen hlim hrow hrel ih => simp at hS
  | ptr id sz row col esz rows r cells hS hk hsz hr hlen hrel ih => simp at hS
  | agg xs ys hlen hrel ih => exact .agg xs ys hlen ih
  | tuple xs ys hlen hrel ih => exact .tuple xs ys hlen ih
  | func fn xs ys us vs hlen hlen' hrel hrel' ih ih' => exact .func fn xs ys us vs hlen hlen' ih ih'
  | iface t x y hrel ih => exact .iface t x y ih
  | sl rows rows' lim hlen hrow hrel ih => exact .sl rows rows' lim hlen hrow ih

theorem Frz.widen {h : Heap} {S S' : Nat → Prop} (hS : ∀ id, S id → S' id) {x y : AVal} (f : Frz h S x y) : Frz h S' x y := by
  induction f with
  | refl x => exact .refl x
  | ref id sz base len ex c esz rows rows' lim hs hk hsz hlen hlim hrow hrel ih => exact .ref id sz base len ex c esz rows rows' lim (hS id hs) hk hsz hlen hlim hrow ih
  | ptr id sz row col esz rows r cells hs hk hsz hr hlen hrel ih => exact .ptr id sz row col esz rows r cells (hS id hs) hk hsz hr hlen ih
  | agg xs ys hlen hrel ih => exact .agg xs ys hlen ih
  | tuple xs ys hlen hrel ih => exact .tuple xs ys hlen ih
  | func fn xs ys us vs hlen hlen' hrel hrel' ih ih' => exact .func fn xs ys us vs hlen hlen' ih ih'
  | iface t x y hrel ih => exact .iface t x y ih
  | sl rows rows' lim hlen hrow hrel ih => exact .sl rows rows' lim hlen hrow ih

/-- A call of the machine, of a function that only reads. -/
theorem call_wp {ext : Nat → Prop} {β : Nat → Option Nat} {p : Nat → Prop} {tmps : List AVal} {h : Heap} {a : Act} {w : World} (i : SInP n0 ext β p tmps h a w) {o : Oper} {c : Call} {g : FuncId} {args args' : List AVal} {r : AVal} {L : List Nat} (ho : o.op = .call c)
    (ht : target tmps c = some (g, args)) (hp : PCall P g args' (· = r)) (hlen : args'.length = args.length) (hf : ∀ (k : Nat) x y, args[k]? = some x → args'[k]? = some y → Frz h (· ∈ L) x y) (hflat : Flat r ∨ L = [])
    {K : Act → World → Prop} {Q : Exit → Act → World → Prop} (hk : ∀ v w', HIn ext β p h w' → VRel (cx ext β h w') r v → Fz r → Evo (owns β h) w (owns β h) w' → (∀ q, Step q (cx ext β h w) (cx ext β h w')) → K (a.put o.dst v) w') : o.wp P a w K Q := by
  obtain ⟨vs, hrun, hsz, hrel⟩ := target_ok i ho ht hp.callable
  unfold Oper.wp
  rw [hrun, Oper.upon_enter]
  have hno : ∀ b, ¬ owns (fun _ => none) [] b := fun b ⟨_, _, h1, _⟩ => by simp [lk] at h1
  rcases hflat with hflat | hL
  · have hargs : ∀ (k : Nat) y v, args'[k]? = some y → vs[k]? = some v → VRel (cx ext (fun _ => none) [] w) y v := fun k y v hy hv => by
      have hlt : k < args.length := by rw [← hlen]; exact (List.getElem?_eq_some_iff.1 hy).1
      exact Frz.rel i.heap (fun b hb => .inl hb) (fun id ob b hS hl hb hx => (i.heap.ext b hx).2 ⟨id, ob, hl, hb⟩) (hf k args[k] y (List.getElem?_eq_getElem hlt) hy) v (hrel k _ v (List.getElem?_eq_getElem hlt) hv)
    refine (hp.run ext w vs (fun b hb => (i.heap.ext b hb).1) (by rw [hsz, hlen]) hargs).mono ?_
    rintro e w' ⟨v, r', rfl, rfl, hfz, hv, hev⟩
    obtain ⟨k1, k2, k3⟩ := i.heap.evo hev
    exact hk v w' k1 (hflat _ _ v hv) hfz k2 k3
  · subst hL
    have hargs : ∀ (k : Nat) y v, args'[k]? = some y → vs[k]? = some v → VRel (cx (fun b => ext b ∨ owns β h b) (fun _ => none) [] w) y v := fun k y v hy hv => by
      have hlt : k < args.length := by rw [← hlen]; exact (List.getElem?_eq_some_iff.1 hy).1
      exact Frz.rel i.heap (fun b hb => hb) (fun id ob b hS hl hb hx => hS.elim) ((hf k args[k] y (List.getElem?_eq_getElem hlt) hy).none h) v (hrel k _ v (List.getElem?_eq_getElem hlt) hv)
    refine (hp.run (fun b => ext b ∨ owns β h b) w vs (fun b hb => hb.elim (fun h => (i.heap.ext b h).1) (fun h => i.heap.lt h)) (by rw [hsz, hlen]) hargs).mono ?_
    rintro e w' ⟨v, r', rfl, rfl, hfz, hv, hev⟩
    obtain ⟨k1, k2, k3⟩ := i.heap.evo hev
    have st : Step (fun _ => False) (cx (fun b => ext b ∨ owns β h b) (fun _ => none) [] w') (cx ext β h w') :=
      ⟨fun b o v h1 h4 => ⟨fun h3 => h1 (Or.inl h3), h4⟩, fun _ _ h => h, fun _ h => h.elim, fun _ h => h.elim⟩
    exact hk v w' k1 (hv.step st hfz) hfz k2 k3

/-- A call of the machine, of a function that hands back a new object. -/
theorem new_wp {ext : Nat → Prop} {β : Nat → Option Nat} {p : Nat → Prop} {tmps : List AVal} {h : Heap} {a : Act} {w : World} {fresh : Nat} (i : SInP n0 ext β p tmps h a w) (hpf : ¬ p fresh) {o : Oper} {c : Call} {g : FuncId} {args args' : List AVal} {x : Nat → AVal} {ob : Ob}
    (ho : o.op = .call c) (ht : target tmps c = some (g, args)) (hp : PNew P g args' x ob) (hlen : args'.length = args.length) (hf : ∀ (k : Nat) x y, args[k]? = some x → args'[k]? = some y → Frz h (· ∈ ([] : List Nat)) x y)
    {K : Act → World → Prop} {Q : Exit → Act → World → Prop} (hk : ∀ v w' β', HIn ext β' (fun j => p j ∨ j = fresh) ((fresh, ob) :: h) w' → VRel (cx ext β' ((fresh, ob) :: h) w') (x fresh) v → Nm (fun j => p j ∨ j = fresh) (x fresh) →
      Evo (owns β h) w (owns β' ((fresh, ob) :: h)) w' → Step p (cx ext β h w) (cx ext β' ((fresh, ob) :: h) w') → K (a.put o.dst v) w') : o.wp P a w K Q := by
  obtain ⟨vs, hrun, hsz, hrel⟩ := target_ok i ho ht hp.callable
  unfold Oper.wp
  rw [hrun, Oper.upon_enter]
  have hargs : ∀ (k : Nat) y v, args'[k]? = some y → vs[k]? = some v → VRel (cx (fun b => ext b ∨ owns β h b) (fun _ => none) [] w) y v := fun k y v hy hv => by
    have hlt : k < args.length := by rw [← hlen]; exact (List.getElem?_eq_some_iff.1 hy).1
    exact Frz.rel i.heap (fun b hb => hb) (fun id ob b hS hl hb hx => hS.elim) ((hf k args[k] y (List.getElem?_eq_getElem hlt) hy).none h) v (hrel k _ v (List.getElem?_eq_getElem hlt) hv)
  refine (hp.run ext β p h w vs fresh i.heap hpf (by rw [hsz, hlen]) hargs).mono ?_
  rintro e w' ⟨v, β', rfl, k1, k2, k3, k4, k5⟩
  exact hk v w' β' k1 k2 k3 k4 k5

theorem mem_ready {md : Region.Mode} {ops : Array Oper} {listed : Array Bool} {i : Nat} : i ∈ Region.ready md ops listed ↔ i < ops.size ∧ listed.getD i true = false ∧ ∃ o, ops[i]? = some o ∧ ∀ e, e ∈ o.after → Region.binds md e = true → listed.getD e.on false = true := by
  unfold Region.ready
  rw [List.mem_filter, List.mem_range]
  constructor
  · rintro ⟨h1, h2⟩
    simp only [Bool.and_eq_true, Bool.not_eq_true'] at h2
    refine ⟨h1, h2.1, ops[i], Array.getElem?_eq_getElem h1, fun e he hb => ?_⟩
    have h3 := h2.2
    rw [Array.getElem?_eq_getElem h1, Option.map_some, Option.getD_some, Array.all_eq_true'] at h3
    have := h3 e he
    simpa [hb] using this
  · rintro ⟨h1, h2, o, ho, h3⟩
    refine ⟨h1, ?_⟩
    simp only [Bool.and_eq_true, Bool.not_eq_true']
    refine ⟨h2, ?_⟩
    rw [ho, Option.map_some, Option.getD_some, Array.all_eq_true']
    intro e he
    cases hb : Region.binds md e with
    | false => rfl
    | true => simpa using h3 e he hb

/-- How many have not been done. -/
def todo (listed : Array Bool) : Nat := (listed.toList.filter fun b => !b).length

theorem todo_set {listed : Array Bool} {i : Nat} (hi : i < listed.size) (h : listed.getD i true = false) : todo (listed.setIfInBounds i true) + 1 = todo listed := by
  unfold todo
  have e : (listed.setIfInBounds i true).toList = listed.toList.set i true := by simp
  rw [e]
  have hl : i < listed.toList.length := by simpa using hi
  have hg : listed.toList[i] = false := by
    rw [Array.getD_eq_getD_getElem?, Array.getElem?_eq_getElem hi] at h
    simpa using h
  generalize listed.toList = l at hl hg
  clear e h hi
  induction l generalizing i with
  | nil => simp at hl
  | cons b l ih =>
    cases i with
    | zero => simp at hg; subst hg; simp
    | succ i =>
      have := ih (i := i) (Nat.lt_of_succ_lt_succ hl) hg
      simp only [List.set_cons_succ, List.filter_cons]
      split
      · simp only [List.length_cons]; omega
      · exact this

theorem todo_pos {listed : Array Bool} {i : Nat} (hi : i < listed.size) (h : listed.getD i true = false) : 0 < todo listed := by
  have := todo_set hi h; omega

variable {Q : Exit → St → Prop}

theorem draw_fin {ext : Nat → Prop} {β0 : Nat → Option Nat} {h0 : Heap} {w0 : World} (listed : Array Bool) (a : Act) (w : World) (β : Nat → Option Nat) (tmD : List AVal) (hD : Heap) (pl : Plan fl P all nx tm hp tc) (hQ : Q .normal ⟨tm all.size, hp all.size, nx + all.size⟩)
    (hls : listed.size = all.size) (sd : SD all nx tm hp tc (fun k => listed.getD k false = true) tmD hD) (hs : SInP n0 ext β (pD all nx fun k => listed.getD k false = true) tmD hD a w) (hg : Goes n0 ext β0 h0 w0 β hD w)
    (hr : Region.ready .any all listed = []) : Post n0 ext β0 h0 w0 Q .normal a w := by
  have hall : ∀ k, k < all.size → listed.getD k false = true := by
    intro k
    induction k using Nat.strongRecOn with
    | ind k ih =>
      intro hk
      cases hb : listed.getD k false with
      | true => rfl
      | false =>
        exfalso
        have : k ∈ Region.ready .any all listed := by
          refine mem_ready.2 ⟨hk, ?_, all[k], Array.getElem?_eq_getElem hk, fun e he hbnd => ih e.on (pl.c1 k _ e (Array.getElem?_eq_getElem hk) he hbnd) ?_⟩
          · rw [Array.getD_eq_getD_getElem?, Array.getElem?_eq_getElem (by omega)] at hb ⊢
            simpa using hb
          · exact Nat.lt_trans (pl.c1 k _ e (Array.getElem?_eq_getElem hk) he hbnd) hk
        rw [hr] at this
        simp at this
  obtain ⟨e1, e2⟩ := sd.fin pl hall
  subst e1
  obtain ⟨q1, q2, q3⟩ := hs.heap.congr (h' := hp all.size) fun id => (e2 id).symm
  have hpq : ∀ id, (pD all nx fun k => listed.getD k false = true) id → id < nx + all.size := fun id hid => by
    rcases hid with hid | ⟨k, z1, z2, z3⟩
    · omega
    · omega
  exact ⟨β, ⟨tm all.size, hp all.size, nx + all.size⟩, hQ, ⟨q1.mono hpq, hs.size, fun i x v hx hv => (hs.rel i x v hx hv).step (q3 _) (hs.nm x (List.mem_of_getElem? hx)), fun x hx => (hs.nm x hx).mono hpq, hs.defers, fun j hj => hpq j (hs.low j hj)⟩, hg.trans ⟨q2, q3 _⟩⟩

theorem draw_sim (pl : Plan fl P all nx tm hp tc) (hn0 : n0 ≤ nx) (hQ : Q .normal ⟨tm all.size, hp all.size, nx + all.size⟩) {ext : Nat → Prop} {β0 : Nat → Option Nat} {h0 : Heap} {w0 : World} : ∀ (fuel : Nat) (listed : Array Bool) (a : Act) (w : World) (β : Nat → Option Nat) (tmD : List AVal) (hD : Heap),
    listed.size = all.size → todo listed ≤ fuel → (∀ k i, Before all k i → listed.getD i false = true → listed.getD k false = true) → SD all nx tm hp tc (fun k => listed.getD k false = true) tmD hD →
    SInP n0 ext β (pD all nx fun k => listed.getD k false = true) tmD hD a w → Goes n0 ext β0 h0 w0 β hD w → wpAny P .any all (Post n0 ext β0 h0 w0 Q) fuel listed a w := by
  intro fuel
  induction fuel with
  | zero =>
    intro listed a w β tmD hD hls htd down sd hs hg
    have hr : Region.ready .any all listed = [] := by
      rw [List.eq_nil_iff_forall_not_mem]
      intro i hi
      obtain ⟨h1, h2, _⟩ := mem_ready.1 hi
      have := todo_pos (by omega) h2
      omega
    exact ⟨hr, draw_fin listed a w β tmD hD pl hQ hls sd hs hg hr⟩
  | succ fuel ih =>
    intro listed a w β tmD hD hls htd down sd hs hg
    refine ⟨fun hr => draw_fin listed a w β tmD hD pl hQ hls sd hs hg hr, fun j hj => ?_⟩
    obtain ⟨hjs, hjl, o, ho, hedges⟩ := mem_ready.1 hj
    have hjD : ¬ listed.getD j false = true := by
      rw [Array.getD_eq_getD_getElem?, Array.getElem?_eq_getElem (by omega)] at hjl ⊢
      simp at hjl ⊢
      exact hjl
    have hrr : ∀ k, Before all k j → listed.getD k false = true := by
      have gen : ∀ k i, Before all k i → i = j → listed.getD k false = true := fun k i hb => by
        induction hb with
        | edge i o' e ho' he hb =>
          rintro rfl
          rw [ho] at ho'
          injection ho' with ho'
          subst ho'
          exact hedges e he hb
        | trans i j' k' h1 h2 ih1 ih2 =>
          intro e
          exact down _ _ h1 (ih2 e)
      exact fun k hb => gen k j hb rfl
    have hset : ∀ k, (listed.setIfInBounds j true).getD k false = true ↔ (listed.getD k false = true ∨ k = j) := fun k => by
      rw [Array.getD_eq_getD_getElem?, Array.getD_eq_getD_getElem?]
      by_cases e : k = j
      · subst e
        rw [Array.getElem?_setIfInBounds_self_of_lt (by omega)]
        simp
      · rw [Array.getElem?_setIfInBounds_ne (fun h => e h.symm)]
        simp [e]
    have hDeq : (fun k => (listed.setIfInBounds j true).getD k false = true) = fun k => listed.getD k false = true ∨ k = j := funext fun k => propext (hset k)
    have hslot := fun t ht => sd.slotAt pl down hjs hjD hrr ho (t := t) ht
    have hev : ∀ x, x ∈ o.op.operands → ev tmD x = ev (tm j) x := fun x hx => ev_agree hslot x hx
    have hgd : guardA all tmD o = guardA all (tm j) o := guard_agree hslot
    have hheap : ∀ id, (aff nx tc j id ∨ id ∈ (tc j).2) → lk hD id = lk (hp j) id := fun id hid => sd.heapAt pl down hjs hjD hrr hid
    -- what follows when it has been done
    have go : ∀ (y : AVal) (v : Value) (β' : Nat → Option Nat) (hD' : Heap) (w' : World), tm (j + 1) = putT (tm j) o.dst y → (∀ id, lk (hp j) id = lk hD id → lk (hp (j + 1)) id = lk hD' id) → (∀ id, ¬ aff nx tc j id → lk hD' id = lk hD id) →
        HIn ext β' (pD all nx fun k => listed.getD k false = true ∨ k = j) hD' w' → VRel (cx ext β' hD' w') y v → Nm (pD all nx fun k => listed.getD k false = true ∨ k = j) y → Goes n0 ext β hD w β' hD' w' →
        Step (pD all nx fun k => listed.getD k false = true) (cx ext β hD w) (cx ext β' hD' w') →
        wpAny P .any all (Post n0 ext β0 h0 w0 Q) fuel (listed.setIfInBounds j true) (a.put o.dst v) w' := by
      intro y v β' hD' w' q1 q2 q3 q4 q5 q6 q7 q8
      refine ih (listed.setIfInBounds j true) _ w' β' (putT tmD o.dst y) hD' (by simpa using hls) (by have := todo_set (by omega) hjl; omega) (fun k i hb hi => ?_) ?_ ?_ (hg.trans q7)
      · rw [hset] at hi ⊢
        rcases hi with hi | hi
        · exact .inl (down k i hb hi)
        · exact .inl (hrr k (hi ▸ hb))
      · rw [hDeq]
        exact sd.next pl down hjs hjD hrr ho q1 q2 q3
      · rw [hDeq]
        exact hs.put q4 (fun id hid => hid.imp (fun h => h) fun ⟨k, z1, z2, z3⟩ => ⟨k, z1, .inl z2, z3⟩) q8 q5 q6 o.dst
    unfold wpOp
    rw [ho]
    simp only []
    obtain ⟨o', ho', hcase⟩ := pl.ps j hjs
    rw [ho] at ho'
    injection ho' with ho'
    subst ho'
    rcases hcase with ⟨h1, h2, h3, h4⟩ | ⟨y, h1, h2, h3, h4⟩ | ⟨y, h1, hfl, ha, hna, ht, h2, h3, h4⟩ | ⟨c, g, args, args', r, L, h1, h2, h3, h4, h5, h6, h7, h8, h9, h10⟩ | ⟨c, g, args, args', x, ob, h1, h2, h3, h4, h5, h6, h8, h9, h10⟩ | ⟨y, h1, h2, h3, h4, h5⟩ | ⟨y, L, L', h1, _, hk, hL, h2, h3, h4, h5⟩
    · rw [guard_ok hs (hgd.trans h1), if_neg (by simp)]
      exact go (.tuple []) undef β hD w h2 (fun id he => by rw [h3]; exact he) (fun id _ => rfl) (hs.heap.mono fun id hid => hid.imp (fun h => h) fun ⟨k, z1, z2, z3⟩ => ⟨k, z1, .inl z2, z3⟩) rel_undef (.tuple [] (by simp)) (Goes.refl n0 ext β hD w) (Step.refl _ _)
    · rw [guard_ok hs (hgd.trans h1), if_pos rfl]
      refine .inl ?_
      have htc : ∀ id, id ∈ touched (tm j) o → lk (hp j) id = lk hD id := fun id hid => (hheap id (.inr (by rw [h4]; exact hid))).symm
      obtain ⟨hD', hs1, heff⟩ := astep_loc htc h2
      have hs2 : astep P tmD hD (nx + j) o = some (y, hD') := by rw [astep_congr hev]; exact hs1
      have hfresh : ¬ (pD all nx fun k => listed.getD k false = true) (nx + j) := by
        rintro (hid | ⟨k, q1, q2, q3⟩)
        · omega
        · have : k = j := by omega
          subst this
          exact hjD q2
      obtain ⟨rr, v, w', β', e1, e2, e3, e4, e5, e6, e7⟩ := astep_ok hs hfresh hs2
      have hpq : ∀ id, ((pD all nx fun k => listed.getD k false = true) id ∨ id = nx + j) → (pD all nx fun k => listed.getD k false = true ∨ k = j) id := fun id hid => by
        rcases hid with (hid | ⟨k, q1, q2, q3⟩) | hid
        · exact .inl hid
        · exact .inr ⟨k, q1, .inl q2, q3⟩
        · exact .inr ⟨j, hjs, .inr rfl, hid⟩
      have hkeep : ∀ id, ¬ aff nx tc j id → lk hD' id = lk hD id := fun id hid => by
        by_cases hw : isWriter o = true
        · exact heff.keep2 htc id (fun e => hid (.inl e)) (fun hm => hid (.inr (by rw [h4]; exact ⟨hw, hm⟩)))
        · exact astep_keeps (by simpa using hw) hs2 id (fun e => hid (.inl e))
      have hgo := go y v β' hD' w' h3 (fun id he => heff.same htc id he) hkeep (e3.mono hpq) e4 (e5.mono hpq) ⟨e6, e7.weaken fun id hid => .inl (Nat.lt_of_lt_of_le hid hn0)⟩ e7
      unfold Oper.wp
      rw [e1]
      rcases e2 with rfl | ⟨rfl, rfl⟩
      · exact hgo
      · exact hgo
    · rw [guard_ok hs (hgd.trans h1), if_pos rfl]
      refine .inl ?_
      have hheq : hp (j + 1) = hp j := (astep_adr (g := hp j) ha ht h2 fun _ _ => rfl).1
      have hs1 := (astep_adr (g := hD) ha ht h2 fun id hid => sd.shapeAt pl hfl hna hjs hid).2
      have hs2 : astep P tmD hD (nx + j) o = some (y, hD) := by rw [astep_congr hev]; exact hs1
      have hfresh : ¬ (pD all nx fun k => listed.getD k false = true) (nx + j) := by
        rintro (hid | ⟨k, q1, q2, q3⟩)
        · omega
        · have : k = j := by omega
          subst this
          exact hjD q2
      obtain ⟨rr, v, w', β', e1, e2, e3, e4, e5, e6, e7⟩ := astep_ok hs hfresh hs2
      have hpq : ∀ id, ((pD all nx fun k => listed.getD k false = true) id ∨ id = nx + j) → (pD all nx fun k => listed.getD k false = true ∨ k = j) id := fun id hid => by
        rcases hid with (hid | ⟨k, q1, q2, q3⟩) | hid
        · exact .inl hid
        · exact .inr ⟨k, q1, .inl q2, q3⟩
        · exact .inr ⟨j, hjs, .inr rfl, hid⟩
      have hgo := go y v β' hD w' h3 (fun id he => by rw [hheq]; exact he) (fun id _ => rfl) (e3.mono hpq) e4 (e5.mono hpq) ⟨e6, e7.weaken fun id hid => .inl (Nat.lt_of_lt_of_le hid hn0)⟩ e7
      unfold Oper.wp
      rw [e1]
      rcases e2 with rfl | ⟨rfl, rfl⟩
      · exact hgo
      · exact hgo
    · rw [guard_ok hs (hgd.trans h1), if_pos rfl]
      refine .inl ?_
      have htc : ∀ id, id ∈ L → lk (hp j) id = lk hD id := fun id hid => (hheap id (.inr (by rw [h10]; exact hid))).symm
      refine call_wp hs h2 ((target_agree h2 hev).trans h3) h4 h5 (fun k x y hx hy => (h6 k x y hx hy).loc htc) h7 fun v w' q1 q2 q3 q4 q5 => ?_
      exact go r v β hD w' h8 (fun id he => by rw [h9]; exact he) (fun id _ => rfl) (q1.mono fun id hid => hid.imp (fun h => h) fun ⟨k, z1, z2, z3⟩ => ⟨k, z1, .inl z2, z3⟩) q2 (Fz.nm q3 _) ⟨q4, q5 _⟩ (q5 _)
    · rw [guard_ok hs (hgd.trans h1), if_pos rfl]
      refine .inl ?_
      have hfresh : ¬ (pD all nx fun k => listed.getD k false = true) (nx + j) := by
        rintro (hid | ⟨k, q1, q2, q3⟩)
        · omega
        · have : k = j := by omega
          subst this
          exact hjD q2
      have hpq : ∀ id, ((pD all nx fun k => listed.getD k false = true) id ∨ id = nx + j) → (pD all nx fun k => listed.getD k false = true ∨ k = j) id := fun id hid => by
        rcases hid with (hid | ⟨k, q1, q2, q3⟩) | hid
        · exact .inl hid
        · exact .inr ⟨k, q1, .inl q2, q3⟩
        · exact .inr ⟨j, hjs, .inr rfl, hid⟩
      refine new_wp hs hfresh h2 ((target_agree h2 hev).trans h3) h4 h5 (fun k x y hx hy => (h6 k x y hx hy).loc fun id hid => by cases hid) fun v w' β' q1 q2 q3 q4 q5 => ?_
      exact go (x (nx + j)) v β' ((nx + j, ob) :: hD) w' h8 (fun id he => by rw [h9, lk_cons, lk_cons, he]) (fun id hid => by rw [lk_cons, if_neg fun e => hid (.inl e)]) (q1.mono hpq) q2 (q3.mono hpq) ⟨q4, q5.weaken fun id hid => .inl (Nat.lt_of_lt_of_le hid hn0)⟩ q5
    · rw [guard_ok hs (hgd.trans h1), if_pos rfl]
      refine .inl ?_
      refine h2 n0 ext β _ tmD hD a w hs hev _ _ fun v w' q1 q2 q3 q4 q5 => ?_
      exact go y v β hD w' h3 (fun id he => by rw [h4]; exact he) (fun id _ => rfl) (q1.mono fun id hid => hid.imp (fun h => h) fun ⟨k, z1, z2, z3⟩ => ⟨k, z1, .inl z2, z3⟩) q2 (Fz.nm q3 _) ⟨q4, q5 _⟩ (q5 _)
    · rw [guard_ok hs (hgd.trans h1), if_pos rfl]
      refine .inl ?_
      have hL' : ∀ e, e ∈ L → lk hD e.1 = some e.2 := fun e he => by
        rw [hheap e.1 (.inr (by rw [h5]; exact List.mem_map.2 ⟨e, he, rfl⟩))]
        exact hL e he
      have hmono : ∀ id, (pD all nx fun k => listed.getD k false = true) id → (pD all nx fun k => listed.getD k false = true ∨ k = j) id := fun id hid => hid.imp (fun h => h) fun ⟨k, z1, z2, z3⟩ => ⟨k, z1, .inl z2, z3⟩
      refine h2 n0 ext β _ tmD hD a w hs hev hL' _ _ fun v w' β' q1 q2 q3 q4 q5 => ?_
      refine go y v β' (upds hD L') w' h3 (fun id he => ?_) (fun id hid => lk_upds_ne _ _ fun e h7 h8 => hid (.inr (by rw [h5]; exact ⟨rfl, h8 ▸ hk e h7⟩))) (q1.mono hmono) q2 (q3.mono hmono) ⟨q4, q5.weaken fun id hid => .inl (Nat.lt_of_lt_of_le hid hn0)⟩ q5
      rw [h4]
      exact lk_upds_same _ _ _ (keys_some hk hL) (keys_some hk hL') he

theorem indep_ok {n n0 : Nat} {Pr : List Nat} {tc : List (Bool × List Nat)} (h : indepB n n0 Pr tc = true) (i k : Nat) (hi : i < n) (hk : k < n) (hne : i ≠ k) :
    (Pr.getD i 0).testBit k = true ∨ (Pr.getD k 0).testBit i = true ∨ (((tc.getD i (false, [])).1 = false ∨ ∀ id, id ∈ (tc.getD i (false, [])).2 → id ∉ (tc.getD k (false, [])).2) ∧ n0 + i ∉ (tc.getD k (false, [])).2) := by
  unfold indepB at h
  rw [List.all_eq_true] at h
  have h1 := h i (List.mem_range.2 hi)
  rw [List.all_eq_true] at h1
  have h2 := h1 k (List.mem_range.2 hk)
  simp only [Bool.or_eq_true, beq_iff_eq, List.contains_iff_mem, Bool.and_eq_true, Bool.not_eq_true', List.all_eq_true] at h2
  rcases h2 with ((h2 | h2) | h2) | ⟨h2, h3⟩
  · exact absurd h2 hne
  · exact .inl h2
  · exact .inr (.inl h2)
  · refine .inr (.inr ⟨h2.imp (fun h => h) fun h id hid hm => ?_, fun hm => ?_⟩)
    · have := h id hid
      rw [List.contains_iff_mem.2 hm] at this
      cases this
    · rw [List.contains_iff_mem.2 hm] at h3
      cases h3

/-- A row whose order is drawn. -/
theorem AWP_draw {id : Nat} {ops : Array Oper} {s : St} (hm : P.follows .mixedOrders = true) (hc : chk ops (preds ops) = true) (d : DR fl P ops (preds ops) s.nx (fun s => Q .normal s) 0 s.tmps s.h []) : AWP P n0 (.region id ops true) Q s := by
  intro ext β a w hs
  obtain ⟨tm, hp, tcs, h1, h2, _, h4, h5, h6, h7⟩ := d.plan rfl (Nat.zero_le _)
  obtain ⟨c1, c2⟩ := chk_ok hc
  have pl : Plan fl P ops s.nx tm hp (fun j => tcs.getD j (false, [])) := by
    refine ⟨fun j hj => h5 j (Nat.zero_le _) hj, c1, c2, fun i k hi hk hne => ?_⟩
    rcases indep_ok h6 i k hi hk hne with h | h | h
    · exact .inl (pre_ok h)
    · exact .inr (.inl (pre_ok h))
    · exact .inr (.inr h)
  obtain ⟨q1, q2, q3⟩ := hs.heap.drawn (w.drawn + 1)
  have hn0 : n0 ≤ s.nx := by
    rcases Nat.eq_zero_or_pos n0 with h | h
    · omega
    · have := hs.low (n0 - 1) (by omega)
      have : n0 - 1 < s.nx := this
      omega
  have hnone : ∀ k, ¬ (Array.replicate ops.size false).getD k false = true := fun k => by
    rw [Array.getD_eq_getD_getElem?, Array.getElem?_replicate]
    split <;> simp
  have hpq : ∀ id, id < s.nx → (pD ops s.nx fun k => (Array.replicate ops.size false).getD k false = true) id := fun id hid => .inl hid
  refine wp_region_any hm (draw_sim pl hn0 h7 ops.size _ a _ β s.tmps s.h (by simp) (by simp [todo]) (fun k i _ hi => absurd hi (hnone i)) ?_ ?_ ⟨q2, q3 _⟩)
  · refine ⟨by rw [h1], fun t _ => by rw [h1], fun t k o hk hD => absurd hD (hnone k), fun id _ => by rw [h2], fun id k hk hD => absurd hD (hnone k)⟩
  · exact ⟨q1.mono hpq, hs.size, fun i x v hx hv => (hs.rel i x v hx hv).step (q3 _) (hs.nm x (List.mem_of_getElem? hx)), fun x hx => (hs.nm x hx).mono hpq, hs.defers, fun j hj => hpq j (hs.low j hj)⟩

/-- A drawn row in the order of the text, up to its next call. -/
def drun (P : Program) (all : Array Oper) (K : List Oper → Nat → List AVal → Heap → List (Bool × List Nat) → Nat → Prop) (n0 : Nat) : List Oper → Nat → List AVal → Heap → List (Bool × List Nat) → Prop
  | [], i, tm, h, tc => K [] i tm h tc n0
  | o :: rest, i, tm, h, tc =>
    match isCall o with
    | true => K (o :: rest) i tm h tc n0
    | false =>
      match guardA all tm o with
      | none => False
      | some g =>
        gsplit g (match astep P tm h (n0 + i) o with | some (y, h') => drun P all K n0 rest (i + 1) (putT tm o.dst y) h' (tc ++ [(isWriter o, touched tm o)]) | none => False)
          (drun P all K n0 rest (i + 1) (putT tm o.dst (.tuple [])) h (tc ++ [(false, [])]))

/-- What is left of a drawn row. -/
def DW (fl : Bool) (P : Program) (all : Array Oper) (n0 : Nat) (K : St → Prop) (rest : List Oper) (i : Nat) (tm : List AVal) (h : Heap) (tc : List (Bool × List Nat)) : Prop :=
  all.toList.drop i = rest → DR fl P all (preds all) n0 K i tm h tc

theorem drop_cons {all : Array Oper} {i : Nat} {o : Oper} {rest : List Oper} (h : all.toList.drop i = o :: rest) : all[i]? = some o ∧ all.toList.drop (i + 1) = rest := by
  constructor
  · have h1 : (all.toList.drop i)[0]? = some o := by rw [h]; rfl
    rw [List.getElem?_drop] at h1
    simpa using h1
  · rw [← List.tail_drop, h]; rfl

theorem DW_drun {all : Array Oper} {n0 : Nat} {K' : St → Prop} {K : List Oper → Nat → List AVal → Heap → List (Bool × List Nat) → Nat → Prop} (hK : ∀ rest i tm h tc, K rest i tm h tc n0 → DW fl P all n0 K' rest i tm h tc) :
    ∀ (rest : List Oper) (i : Nat) (tm : List AVal) (h : Heap) (tc : List (Bool × List Nat)), drun P all K n0 rest i tm h tc → DW fl P all n0 K' rest i tm h tc
  | [], i, tm, h, tc, d => hK _ _ _ _ _ d
  | o :: rest, i, tm, h, tc, d => by
    simp only [drun] at d
    split at d
    · exact hK _ _ _ _ _ d
    · intro hd
      obtain ⟨ho, hd'⟩ := drop_cons hd
      split at d
      · exact d.elim
      · rename_i g hg
        cases g with
        | true =>
          have d := d.1 rfl
          split at d
          · rename_i y h' hy
            exact .step i tm h tc o y h' ho hg hy (DW_drun hK rest (i + 1) _ _ _ d hd')
          · exact d.elim
        | false => exact .skip i tm h tc o ho hg (DW_drun hK rest (i + 1) _ _ _ (d.2 rfl) hd')

section
variable {k : List It} {s : St} {K' : St → Prop} {i : Nat} {tm : List AVal} {h : Heap} {tc : List (Bool × List Nat)}

theorem D_nil (hi : i = all.size) (hind : indepB i nx (preds all) tc = true) (hk : K' ⟨tm, h, nx + i⟩) : DW fl P all nx K' [] i tm h tc := fun _ => .nil i tm h tc hi hind hk

theorem D_call {o : Oper} {rest : List Oper} (c : Call) (g : FuncId) (args args' : List AVal) (r : AVal) (L : List Nat) (hg : guardA all tm o = some true) (hop : o.op = .call c)
    (ht : target tm c = some (g, args)) (hc : PCall P g args' (· = r)) (hlen : args'.length = args.length) (hf : ∀ (k : Nat) x y, args[k]? = some x → args'[k]? = some y → Frz h (· ∈ L) x y) (hflat : Flat r ∨ L = [])
    (hk : DW fl P all nx K' rest (i + 1) (putT tm o.dst r) h (tc ++ [(false, L)])) : DW fl P all nx K' (o :: rest) i tm h tc := fun hd =>
  let ⟨ho, hd'⟩ := drop_cons hd
  .call i tm h tc o c g args args' r L ho hg hop ht hc hlen hf hflat (hk hd')

theorem D_fresh {o : Oper} {rest : List Oper} (c : Call) (g : FuncId) (args args' : List AVal) (x : Nat → AVal) (ob : Ob) (hg : guardA all tm o = some true) (hop : o.op = .call c)
    (ht : target tm c = some (g, args)) (hc : PNew P g args' x ob) (hlen : args'.length = args.length) (hf : ∀ (k : Nat) x y, args[k]? = some x → args'[k]? = some y → Frz h (· ∈ ([] : List Nat)) x y)
    (hk : DW fl P all nx K' rest (i + 1) (putT tm o.dst (x (nx + i))) ((nx + i, ob) :: h) (tc ++ [(false, [])])) : DW fl P all nx K' (o :: rest) i tm h tc := fun hd =>
  let ⟨ho, hd'⟩ := drop_cons hd
  .fresh i tm h tc o c g args args' x ob ho hg hop ht hc hlen hf (hk hd')

theorem D_lit {o : Oper} {rest : List Oper} (y : AVal) (hg : guardA all tm o = some true) (hl : LitOp P tm o y) (hk : DW fl P all nx K' rest (i + 1) (putT tm o.dst y) h (tc ++ [(false, [])])) : DW fl P all nx K' (o :: rest) i tm h tc := fun hd =>
  let ⟨ho, hd'⟩ := drop_cons hd
  .lit i tm h tc o y ho hg hl (hk hd')

theorem D_skip {o : Oper} {rest : List Oper} (hg : guardA all tm o = some false) (hk : DW fl P all nx K' rest (i + 1) (putT tm o.dst (.tuple [])) h (tc ++ [(false, [])])) : DW fl P all nx K' (o :: rest) i tm h tc := fun hd =>
  let ⟨ho, hd'⟩ := drop_cons hd
  .skip i tm h tc o ho hg (hk hd')

theorem D_run {rest : List Oper} (hr : ∀ K : List Oper → Nat → List AVal → Heap → List (Bool × List Nat) → Nat → Prop, (∀ rest i tm h tc, DW fl P all nx K' rest i tm h tc → K rest i tm h tc nx) → drun P all K nx rest i tm h tc) : DW fl P all nx K' rest i tm h tc :=
  DW_drun (K := fun rest i tm h tc n => DW fl P all n K' rest i tm h tc) (fun _ _ _ _ _ h => h) _ _ _ _ _ (hr _ fun _ _ _ _ _ h => h)

theorem W_draw {id : Nat} {ops : Array Oper} {n0 : Nat} (hm : P.follows .mixedOrders = true) (hc : chk ops (preds ops) = true)
    (hr : ∀ K : List Oper → Nat → List AVal → Heap → List (Bool × List Nat) → Nat → Prop, (∀ rest i tm h tc, DW fl P ops s.nx (fun s => unw P n0 k Q .normal s) rest i tm h tc → K rest i tm h tc s.nx) → drun P ops K s.nx ops.toList 0 s.tmps s.h []) :
    AWP P n0 (.region id ops true) (unw P n0 k Q) s :=
  AWP_draw hm hc (DW_drun (K := fun rest i tm h tc n => DW fl P ops n (fun s => unw P n0 k Q .normal s) rest i tm h tc) (fun _ _ _ _ _ h => h) _ _ _ _ _ (hr _ fun _ _ _ _ _ h => h) (by simp))

end
end
end Go.AM
