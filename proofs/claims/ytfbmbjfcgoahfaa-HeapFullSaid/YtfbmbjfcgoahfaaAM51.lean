/-
  AM, part 51: a function that was shown over a small heap, called where there are more objects, by other numbers.
-/
import Derived.Test.YtfbmbjfcgoahfaaAM50
set_option linter.unusedVariables false
namespace Go.AM
open Go

/-- Another number for each object. -/
def ren0 (f : Nat → Nat) : AVal → AVal
  | .ref id sz b len ex c => .ref (f id) sz b len ex c
  | .ptr id sz r c => .ptr (f id) sz r c
  | .mapv id => .mapv (f id)
  | x => x
def renA (f : Nat → Nat) : AVal → AVal
  | .agg cs => .agg (cs.map (ren0 f))
  | .tuple cs => .tuple (cs.map (ren0 f))
  | x => ren0 f x
def renO (f : Nat → Nat) : Ob → Ob
  | .arr esz rows => .arr esz (rows.map fun r => r.map (ren0 f))
  | .mp m => .mp m
def renH (f : Nat → Nat) : Heap → Heap
  | [] => []
  | (i, o) :: h => (f i, renO f o) :: renH f h

/-- A value of one cell that names one of some objects, or none. -/
inductive Lf (S : Nat → Prop) : AVal → Prop
  | ref (id sz b len : Nat) (ex : Bool) (c : Nat) (h : S id) : Lf S (.ref id sz b len ex c)
  | ptr (id sz r c : Nat) (h : S id) : Lf S (.ptr id sz r c)
  | mapv (id : Nat) (h : S id) : Lf S (.mapv id)
  | fz (x : AVal) (h : Fz x) : Lf S x
inductive LfA (S : Nat → Prop) : AVal → Prop
  | leaf (x : AVal) (h : Lf S x) : LfA S x
  | agg (cs : List AVal) (h : ∀ c, c ∈ cs → Lf S c) : LfA S (.agg cs)
  | tuple (cs : List AVal) (h : ∀ c, c ∈ cs → Lf S c) : LfA S (.tuple cs)
def LfO (S : Nat → Prop) : Ob → Prop
  | .arr _ rows => ∀ r, r ∈ rows → ∀ x, x ∈ r → Lf S x
  | .mp m => ∀ e, e ∈ m.es → Fz e.1 ∧ Fz e.2.1

theorem ren0_fz {f : Nat → Nat} {x : AVal} (h : Fz x) : ren0 f x = x := by
  cases h with
  | ref id sz base len ex c h => exact h.elim
  | ptr id sz row col h => exact h.elim
  | mapv id h => exact h.elim
  | _ => rfl

theorem ren0_nm {f : Nat → Nat} {S p : Nat → Prop} (hp : ∀ i, S i → p (f i)) {x : AVal} (h : Lf S x) : Nm p (ren0 f x) := by
  cases h with
  | ref id sz b len ex c h => exact .ref _ _ _ _ _ _ (hp _ h)
  | ptr id sz r c h => exact .ptr _ _ _ _ (hp _ h)
  | mapv id h => exact .mapv _ (hp _ h)
  | fz x h => rw [ren0_fz h]; exact Fz.nm h p

theorem Lf.nm {S p : Nat → Prop} (hp : ∀ i, S i → p i) {x : AVal} (h : Lf S x) : Nm p x := by
  cases h with
  | ref id sz b len ex c h => exact .ref _ _ _ _ _ _ (hp _ h)
  | ptr id sz r c h => exact .ptr _ _ _ _ (hp _ h)
  | mapv id h => exact .mapv _ (hp _ h)
  | fz x h => exact Fz.nm h p

theorem LfA.nm {S p : Nat → Prop} (hp : ∀ i, S i → p i) {x : AVal} (h : LfA S x) : Nm p x := by
  cases h with
  | leaf x h => exact h.nm hp
  | agg cs h => exact .agg _ fun c hc => (h c hc).nm hp
  | tuple cs h => exact .tuple _ fun c hc => (h c hc).nm hp

theorem renA_leaf {f : Nat → Nat} {S p : Nat → Prop} (hp : ∀ i, S i → p (f i)) {x : AVal} (h : LfA S x) : Nm p (renA f x) := by
  have hm : ∀ cs : List AVal, (∀ c, c ∈ cs → Lf S c) → ∀ y, y ∈ cs.map (ren0 f) → Nm p y := fun cs h y hy => by
    obtain ⟨c, hc, rfl⟩ := List.mem_map.1 hy
    exact ren0_nm hp (h c hc)
  cases h with
  | leaf x h =>
    cases h with
    | ref id sz b len ex c h => exact .ref _ _ _ _ _ _ (hp _ h)
    | ptr id sz r c h => exact .ptr _ _ _ _ (hp _ h)
    | mapv id h => exact .mapv _ (hp _ h)
    | fz x h =>
      cases x with
      | agg cs => cases h with | agg _ h => exact .agg _ (hm cs fun c hc => .fz c (h c hc))
      | tuple cs => cases h with | tuple _ h => exact .tuple _ (hm cs fun c hc => .fz c (h c hc))
      | _ => exact (ren0_fz h ▸ Fz.nm h p : Nm p (ren0 f _))
  | agg cs h => exact .agg _ (hm cs h)
  | tuple cs h => exact .tuple _ (hm cs h)

/-- Two contexts of one world: what is named by 'i' in the one is 'f i' in the other. -/
structure Ren (f : Nat → Nat) (S : Nat → Prop) (d c : Cx) : Prop where
  w : d.w = c.w
  own : ∀ b, d.own b ↔ c.own b
  lkd : ∀ i, S i → lk c.h (f i) = (lk d.h i).map (renO f)
  β : ∀ i, S i → d.β i = c.β (f i)

section
variable {f : Nat → Nat} {S : Nat → Prop} {d c : Cx}

theorem Ren.up (R : Ren f S d c) {x : AVal} {v : Value} (h : Lf S x) (hv : VRel d x v) : VRel c (ren0 f x) v := by
  cases h with
  | ref id sz b len ex cc h =>
    cases hv with | ref _ _ _ _ _ _ a cap hcap hlo hex hok =>
    refine .ref _ _ _ _ _ _ a cap hcap hlo hex fun esz rows hr => ?_
    rw [R.lkd id h] at hr
    cases ho : lk d.h id with
    | none => rw [ho] at hr; cases hr
    | some o =>
      rw [ho] at hr
      cases o with
      | mp m => simp [renO] at hr
      | arr esz2 rows2 =>
        simp only [Option.map_some, renO, Option.some.injEq, Ob.arr.injEq] at hr
        obtain ⟨rfl, rfl⟩ := hr
        obtain ⟨h1, h2⟩ := hok _ _ ho
        simp only [List.length_map]
        refine ⟨h1, fun e => ⟨(h2 e).1, ?_⟩⟩
        rcases (h2 e).2 with h3 | ⟨b', h3, h4, e', m, h5, h6⟩
        · exact .inl h3
        · exact .inr ⟨b', by rw [← R.β id h]; exact h3, h4, e', m, by rw [← R.w]; exact h5, h6⟩
  | ptr id sz r cc h =>
    cases hv with | ptr _ _ _ _ ad hok =>
    refine .ptr _ _ _ _ ad fun esz rows hr => ?_
    rw [R.lkd id h] at hr
    cases ho : lk d.h id with
    | none => rw [ho] at hr; cases hr
    | some o =>
      rw [ho] at hr
      cases o with
      | mp m => simp [renO] at hr
      | arr esz2 rows2 =>
        simp only [Option.map_some, renO, Option.some.injEq, Ob.arr.injEq] at hr
        obtain ⟨rfl, rfl⟩ := hr
        obtain ⟨h1, h2⟩ := hok _ _ ho
        simp only [List.length_map]
        refine ⟨h1, fun e => ?_⟩
        obtain ⟨b', h3, h4⟩ := h2 e
        exact ⟨b', by rw [← R.β id h]; exact h3, h4⟩
  | mapv id h =>
    cases hv with | mapv _ r hok =>
    refine .mapv _ r fun es hr => ?_
    rw [R.lkd id h] at hr
    cases ho : lk d.h id with
    | none => rw [ho] at hr; cases hr
    | some o =>
      rw [ho] at hr
      cases o with
      | arr _ _ => simp [renO] at hr
      | mp m => rw [← R.β id h]; exact hok _ ho
  | fz x h =>
    rw [ren0_fz h]
    refine hv.step (p := fun _ => False) ⟨fun b o v h1 h2 => ⟨fun h3 => h1 ((R.own b).2 h3), by rw [← R.w]; exact h2⟩, fun b x h1 => by rw [← R.w]; exact h1, fun _ h => h.elim, fun _ h => h.elim⟩ h

theorem Ren.down (R : Ren f S d c) {x : AVal} {v : Value} (h : Lf S x) (hv : VRel c (ren0 f x) v) : VRel d x v := by
  cases h with
  | ref id sz b len ex cc h =>
    cases hv with | ref _ _ _ _ _ _ a cap hcap hlo hex hok =>
    refine .ref _ _ _ _ _ _ a cap hcap hlo hex fun esz rows hr => ?_
    have hr2 := R.lkd id h
    rw [hr] at hr2
    obtain ⟨h1, h2⟩ := hok _ _ hr2
    simp only [List.length_map] at h1 h2
    refine ⟨h1, fun e => ⟨(h2 e).1, ?_⟩⟩
    rcases (h2 e).2 with h3 | ⟨b', h3, h4, e', m, h5, h6⟩
    · exact .inl h3
    · exact .inr ⟨b', by rw [R.β id h]; exact h3, h4, e', m, by rw [R.w]; exact h5, h6⟩
  | ptr id sz r cc h =>
    cases hv with | ptr _ _ _ _ ad hok =>
    refine .ptr _ _ _ _ ad fun esz rows hr => ?_
    have hr2 := R.lkd id h
    rw [hr] at hr2
    obtain ⟨h1, h2⟩ := hok _ _ hr2
    simp only [List.length_map] at h1 h2
    refine ⟨h1, fun e => ?_⟩
    obtain ⟨b', h3, h4⟩ := h2 e
    exact ⟨b', by rw [R.β id h]; exact h3, h4⟩
  | mapv id h =>
    cases hv with | mapv _ r hok =>
    refine .mapv _ r fun es hr => ?_
    have hr2 := R.lkd id h
    rw [hr] at hr2
    rw [R.β id h]
    exact hok _ hr2
  | fz x h =>
    rw [ren0_fz h] at hv
    refine hv.step (p := fun _ => False) ⟨fun b o v h1 h2 => ⟨fun h3 => h1 ((R.own b).1 h3), by rw [R.w]; exact h2⟩, fun b x h1 => by rw [R.w]; exact h1, fun _ h => h.elim, fun _ h => h.elim⟩ h

theorem Ren.upA (R : Ren f S d c) {x : AVal} {v : Value} (h : LfA S x) (hv : VRel d x v) : VRel c (renA f x) v := by
  have hm : ∀ cs : List AVal, (∀ y, y ∈ cs → Lf S y) → ∀ vs : Array Value, (∀ (i : Nat) x v, cs[i]? = some x → vs[i]? = some v → VRel d x v) → ∀ (i : Nat) x v, (cs.map (ren0 f))[i]? = some x → vs[i]? = some v → VRel c x v := fun cs h vs hr i x v hx hv => by
    rw [List.getElem?_map] at hx
    cases hy : cs[i]? with
    | none => rw [hy] at hx; cases hx
    | some y =>
      rw [hy] at hx
      injection hx with hx
      subst hx
      exact R.up (h y (List.mem_of_getElem? hy)) (hr i y v hy hv)
  have hagg : ∀ cs : List AVal, (∀ y, y ∈ cs → Lf S y) → VRel d (.agg cs) v → VRel c (.agg (cs.map (ren0 f))) v := fun cs h hv => by
    cases hv with | agg _ vs hlen hone hrel => exact .agg _ vs (by rw [hlen, List.length_map]) hone (hm cs h vs hrel)
  have htup : ∀ cs : List AVal, (∀ y, y ∈ cs → Lf S y) → VRel d (.tuple cs) v → VRel c (.tuple (cs.map (ren0 f))) v := fun cs h hv => by
    cases hv with | tuple _ vs hlen hrel => exact .tuple _ vs (by rw [hlen, List.length_map]) (hm cs h vs hrel)
  cases h with
  | agg cs h => exact hagg cs h hv
  | tuple cs h => exact htup cs h hv
  | leaf x h =>
    cases x with
    | agg cs => cases h with | fz _ h => cases h with | agg _ h => exact hagg cs (fun y hy => .fz y (h y hy)) hv
    | tuple cs => cases h with | fz _ h => cases h with | tuple _ h => exact htup cs (fun y hy => .fz y (h y hy)) hv
    | _ => exact R.up h hv

theorem Ren.downA (R : Ren f S d c) {x : AVal} {v : Value} (h : LfA S x) (hv : VRel c (renA f x) v) : VRel d x v := by
  have hm : ∀ cs : List AVal, (∀ y, y ∈ cs → Lf S y) → ∀ vs : Array Value, (∀ (i : Nat) x v, (cs.map (ren0 f))[i]? = some x → vs[i]? = some v → VRel c x v) → ∀ (i : Nat) x v, cs[i]? = some x → vs[i]? = some v → VRel d x v := fun cs h vs hr i x v hx hv =>
    R.down (h x (List.mem_of_getElem? hx)) (hr i _ v (by rw [List.getElem?_map, hx]; rfl) hv)
  have hagg : ∀ cs : List AVal, (∀ y, y ∈ cs → Lf S y) → VRel c (.agg (cs.map (ren0 f))) v → VRel d (.agg cs) v := fun cs h hv => by
    cases hv with | agg _ vs hlen hone hrel => exact .agg _ vs (by rw [hlen, List.length_map]) hone (hm cs h vs hrel)
  have htup : ∀ cs : List AVal, (∀ y, y ∈ cs → Lf S y) → VRel c (.tuple (cs.map (ren0 f))) v → VRel d (.tuple cs) v := fun cs h hv => by
    cases hv with | tuple _ vs hlen hrel => exact .tuple _ vs (by rw [hlen, List.length_map]) (hm cs h vs hrel)
  cases h with
  | agg cs h => exact hagg cs h hv
  | tuple cs h => exact htup cs h hv
  | leaf x h =>
    cases x with
    | agg cs => cases h with | fz _ h => cases h with | agg _ h => exact hagg cs (fun y hy => .fz y (h y hy)) hv
    | tuple cs => cases h with | fz _ h => cases h with | tuple _ h => exact htup cs (fun y hy => .fz y (h y hy)) hv
    | _ => exact R.down h hv

theorem Ren.obUp (R : Ren f S d c) {i : Nat} {o : Ob} (hi : S i) (h : LfO S o) (ho : ObIn d i o) : ObIn c (f i) (renO f o) := by
  cases o with
  | arr esz rows =>
    obtain ⟨h1, h2⟩ := ho
    refine ⟨fun r hr => ?_, ?_⟩
    · obtain ⟨r', hr', rfl⟩ := List.mem_map.1 hr
      rw [List.length_map]
      exact h1 r' hr'
    · rw [← R.β i hi]
      cases hb : d.β i with
      | none => rw [hb] at h2; simp only at h2 ⊢; rw [h2]; rfl
      | some b =>
        rw [hb] at h2
        obtain ⟨cs, e, h3, h4, h5⟩ := h2
        refine ⟨cs, e, by rw [← R.w]; exact h3, by rw [List.length_map]; exact h4, fun k r j x hr hx => ?_⟩
        rw [List.getElem?_map] at hr
        cases hr2 : rows[k]? with
        | none => rw [hr2] at hr; cases hr
        | some r2 =>
          rw [hr2] at hr
          injection hr with hr
          subst hr
          rw [List.getElem?_map] at hx
          cases hx2 : r2[j]? with
          | none => rw [hx2] at hx; cases hx
          | some x2 =>
            rw [hx2] at hx
            injection hx with hx
            subst hx
            obtain ⟨v, h6, h7, h8⟩ := h5 k r2 j x2 hr2 hx2
            exact ⟨v, h6, h7, R.up (h r2 (List.mem_of_getElem? hr2) x2 (List.mem_of_getElem? hx2)) h8⟩
  | mp m =>
    obtain ⟨b, ms, h1, h2, h3, h4⟩ := ho
    refine ⟨b, ms, by rw [← R.β i hi]; exact h1, by rw [← R.w]; exact h2, h3, fun k kk vv n e he hm => ?_⟩
    obtain ⟨q1, q2, q3⟩ := h4 k kk vv n e he hm
    obtain ⟨z1, z2⟩ := h _ (List.mem_of_getElem? he)
    have g1 := R.up (.fz _ z1) q1
    have g2 := R.up (.fz _ z2) q2
    rw [ren0_fz z1] at g1
    rw [ren0_fz z2] at g2
    exact ⟨g1, g2, q3⟩

theorem Ren.obDown (R : Ren f S d c) {i : Nat} {o : Ob} (hi : S i) (h : LfO S o) (ho : ObIn c (f i) (renO f o)) : ObIn d i o := by
  cases o with
  | arr esz rows =>
    obtain ⟨h1, h2⟩ := ho
    refine ⟨fun r hr => ?_, ?_⟩
    · have := h1 _ (List.mem_map.2 ⟨r, hr, rfl⟩)
      rwa [List.length_map] at this
    · rw [R.β i hi]
      cases hb : c.β (f i) with
      | none => rw [hb] at h2; simp only [List.map_eq_nil_iff] at h2; exact h2
      | some b =>
        rw [hb] at h2
        obtain ⟨cs, e, h3, h4, h5⟩ := h2
        refine ⟨cs, e, by rw [R.w]; exact h3, by rw [List.length_map] at h4; exact h4, fun k r j x hr hx => ?_⟩
        obtain ⟨v, h6, h7, h8⟩ := h5 k (r.map (ren0 f)) j (ren0 f x) (by rw [List.getElem?_map, hr]; rfl) (by rw [List.getElem?_map, hx]; rfl)
        exact ⟨v, h6, h7, R.down (h r (List.mem_of_getElem? hr) x (List.mem_of_getElem? hx)) h8⟩
  | mp m =>
    obtain ⟨b, ms, h1, h2, h3, h4⟩ := ho
    refine ⟨b, ms, by rw [R.β i hi]; exact h1, by rw [R.w]; exact h2, h3, fun k kk vv n e he hm => ?_⟩
    obtain ⟨q1, q2, q3⟩ := h4 k kk vv n e he hm
    obtain ⟨z1, z2⟩ := h _ (List.mem_of_getElem? he)
    have g1 : VRel d kk e.key := R.down (.fz _ z1) (by rw [ren0_fz z1]; exact q1)
    have g2 : VRel d vv e.val := R.down (.fz _ z2) (by rw [ren0_fz z2]; exact q2)
    exact ⟨g1, g2, q3⟩

end

theorem renO_nm {f : Nat → Nat} {S p : Nat → Prop} (hp : ∀ i, S i → p (f i)) {o : Ob} (h : LfO S o) : (renO f o).nm p := by
  cases o with
  | arr esz rows =>
    intro r hr x hx
    obtain ⟨r', hr', rfl⟩ := List.mem_map.1 hr
    obtain ⟨x', hx', rfl⟩ := List.mem_map.1 hx
    exact ren0_nm hp (h r' hr' x' hx')
  | mp m => exact fun e he => ⟨Fz.nm (h e he).1 p, Fz.nm (h e he).2 p⟩

theorem LfO.nm {S p : Nat → Prop} (hp : ∀ i, S i → p i) {o : Ob} (h : LfO S o) : o.nm p := by
  cases o with
  | arr esz rows => exact fun r hr x hx => (h r hr x hx).nm hp
  | mp m => exact fun e he => ⟨Fz.nm (h e he).1 p, Fz.nm (h e he).2 p⟩

theorem lk_mem {h : Heap} {i : Nat} {o : Ob} (e : lk h i = some o) : (i, o) ∈ h := by
  induction h with
  | nil => cases e
  | cons a h ih =>
    obtain ⟨j, q⟩ := a
    simp only [lk] at e
    split at e
    · rename_i hj
      injection e with e
      subst hj e
      exact List.mem_cons_self ..
    · exact List.mem_cons_of_mem _ (ih e)

theorem lk_none {h : Heap} {i : Nat} (e : lk h i = none) : i ∉ h.map (·.1) := by
  induction h with
  | nil => simp
  | cons a h ih =>
    obtain ⟨j, q⟩ := a
    simp only [lk] at e
    split at e
    · cases e
    · rename_i hj
      simp only [List.map_cons, List.mem_cons, not_or]
      exact ⟨fun h => hj h.symm, ih e⟩

theorem lk_some_of {h : Heap} {i : Nat} (hm : i ∈ h.map (·.1)) : ∃ o, lk h i = some o := by
  cases e : lk h i with
  | none => exact absurd hm (lk_none e)
  | some o => exact ⟨o, rfl⟩

theorem lk_of_mem {h : Heap} (hn : (h.map (·.1)).Nodup) {e : Nat × Ob} (he : e ∈ h) : lk h e.1 = some e.2 := by
  induction h with
  | nil => cases he
  | cons a h ih =>
    obtain ⟨j, q⟩ := a
    simp only [List.map_cons, List.nodup_cons] at hn
    simp only [lk]
    rcases List.mem_cons.1 he with rfl | he
    · rw [if_pos rfl]
    · rw [if_neg fun (e' : j = e.1) => hn.1 (by rw [e']; exact List.mem_map.2 ⟨e, he, rfl⟩)]
      exact ih hn.2 he

theorem lk_append (a b : Heap) (j : Nat) : lk (a ++ b) j = (lk a j).or (lk b j) := by
  induction a with
  | nil => rfl
  | cons e a ih =>
    obtain ⟨i, o⟩ := e
    simp only [List.cons_append, lk]
    split
    · rfl
    · exact ih

theorem lk_renH {f : Nat → Nat} {K : Nat → Prop} (hinj : ∀ i j, K i → K j → f i = f j → i = j) {i : Nat} (hi : K i) : ∀ {h : Heap}, (∀ e, e ∈ h → K e.1) → lk (renH f h) (f i) = (lk h i).map (renO f)
  | [], _ => rfl
  | (j, o) :: h, hk => by
    simp only [renH, lk]
    by_cases e : j = i
    · subst e; rw [if_pos rfl, if_pos rfl]; rfl
    · rw [if_neg e, if_neg fun e' => e (hinj j i (hk (j, o) (List.mem_cons_self ..)) hi e')]
      exact lk_renH hinj hi fun e he => hk e (List.mem_cons_of_mem _ he)

theorem lk_renH_none {f : Nat → Nat} {id : Nat} : ∀ {h : Heap}, (∀ e, e ∈ h → f e.1 ≠ id) → lk (renH f h) id = none
  | [], _ => rfl
  | (j, o) :: h, hk => by
    simp only [renH, lk]
    rw [if_neg (hk (j, o) (List.mem_cons_self ..))]
    exact lk_renH_none fun e he => hk e (List.mem_cons_of_mem _ he)

theorem renH_mem {f : Nat → Nat} {h : Heap} {e : Nat × Ob} (he : e ∈ renH f h) : ∃ q, q ∈ h ∧ e = (f q.1, renO f q.2) := by
  induction h with
  | nil => cases he
  | cons a h ih =>
    obtain ⟨j, o⟩ := a
    simp only [renH] at he
    rcases List.mem_cons.1 he with rfl | he
    · exact ⟨_, List.mem_cons_self .., rfl⟩
    · obtain ⟨q, hq, e1⟩ := ih he
      exact ⟨q, List.mem_cons_of_mem _ hq, e1⟩

theorem lk_upds_in {f : Nat → Nat} {K : Nat → Prop} (hinj : ∀ i j, K i → K j → f i = f j → i = j) : ∀ (L : Heap) (h : Heap), (L.map (·.1)).Nodup → (∀ e, e ∈ L → K e.1) → (∀ e, e ∈ L → (lk h (f e.1)).isSome = true) → ∀ e, e ∈ L → lk (upds h (renH f L)) (f e.1) = some (renO f e.2)
  | [], h, _, _, _, e, he => by cases he
  | (j, o) :: L, h, hn, hk, hs, e, he => by
    simp only [List.map_cons, List.nodup_cons] at hn
    simp only [renH, upds]
    have hj : (lk h (f j)).isSome = true := hs (j, o) (List.mem_cons_self ..)
    rcases List.mem_cons.1 he with rfl | he
    · rw [lk_upds_ne, lk_hset' hj, if_pos rfl]
      intro q hq
      obtain ⟨q', hq', rfl⟩ := renH_mem hq
      intro e'
      have := hinj q'.1 j (hk q' (List.mem_cons_of_mem _ hq')) (hk (j, o) (List.mem_cons_self ..)) e'
      exact hn.1 (this ▸ List.mem_map.2 ⟨q', hq', rfl⟩)
    · exact lk_upds_in hinj L _ hn.2 (fun e he => hk e (List.mem_cons_of_mem _ he)) (fun e he => lk_hset_isSome (hs e (List.mem_cons_of_mem _ he)) hj) e he

section
variable {P : Program}

/-- A function that was shown over a heap of its own, with new objects 'N' and old ones 'U', where there is more. -/
theorem HCall.lift {g : FuncId} {args : List AVal} {L N U : Heap} {nx : Nat} {r0 : AVal} {f : Nat → Nat} (hc : HCall P g args L nx fun r h _ => r = r0 ∧ h = N ++ U) (hU : U.map (·.1) = L.map (·.1)) (hnd : ((N ++ U).map (·.1)).Nodup)
    (hlt : ∀ e, e ∈ L → e.1 < nx) (hinj : ∀ i j, i ∈ (N ++ U).map (·.1) → j ∈ (N ++ U).map (·.1) → f i = f j → i = j)
    (hLf : ∀ e, e ∈ L → LfO (fun i => i ∈ L.map (·.1)) e.2) (hNU : ∀ e, e ∈ N ++ U → LfO (fun i => i ∈ (N ++ U).map (·.1)) e.2) (hr : LfA (fun i => i ∈ (N ++ U).map (·.1)) r0) (ha : ∀ x, x ∈ args → LfA (fun i => i ∈ L.map (·.1)) x)
    (ext : Nat → Prop) (β : Nat → Option Nat) (p : Nat → Prop) (h : Heap) (w : World) (vs : Array Value) (hin : HIn ext β p h w) (hL : ∀ e, e ∈ L → lk h (f e.1) = some (renO f e.2)) (hfresh : ∀ e, e ∈ N → ¬ p (f e.1)) (hsz : vs.size = args.length)
    (hrel : ∀ (k : Nat) x v, (args.map (renA f))[k]? = some x → vs[k]? = some v → VRel (cx ext β h w) x v) :
    Calls P g vs w fun e w' => ∃ v β', e = .returned v ∧ HIn ext β' (fun j => p j ∨ ∃ e, e ∈ N ∧ j = f e.1) (renH f N ++ upds h (renH f U)) w' ∧ VRel (cx ext β' (renH f N ++ upds h (renH f U)) w') (renA f r0) v ∧
      Nm (fun j => p j ∨ ∃ e, e ∈ N ∧ j = f e.1) (renA f r0) ∧ Evo (owns β h) w (owns β' (renH f N ++ upds h (renH f U))) w' ∧ Step p (cx ext β h w) (cx ext β' (renH f N ++ upds h (renH f U)) w') := by
  -- the keys
  have hKU : ∀ i, i ∈ L.map (·.1) → i ∈ (N ++ U).map (·.1) := fun i hi => by rw [List.map_append, List.mem_append, hU]; exact .inr hi
  have hKN : ∀ e, e ∈ N → e.1 ∈ (N ++ U).map (·.1) := fun e he => List.mem_map.2 ⟨e, List.mem_append_left _ he, rfl⟩
  have hndU : (U.map (·.1)).Nodup := by rw [List.map_append] at hnd; exact (List.nodup_append.1 hnd).2.1
  have hndL : (L.map (·.1)).Nodup := hU ▸ hndU
  have hlkL : ∀ i, i ∈ L.map (·.1) → lk h (f i) = (lk L i).map (renO f) := fun i hi => by
    obtain ⟨o, ho⟩ := lk_some_of hi
    rw [ho]
    exact hL _ (lk_mem ho)
  have hpL : ∀ i, i ∈ L.map (·.1) → p (f i) := fun i hi => by
    obtain ⟨o, ho⟩ := lk_some_of hi
    exact (hin.nm _ _ (hL _ (lk_mem ho))).1
  -- the other objects
  let Oth : Nat → Prop := fun b => ∃ id o, lk h id = some o ∧ β id = some b ∧ ∀ i, i ∈ L.map (·.1) → f i ≠ id
  let ext0 : Nat → Prop := fun b => ext b ∨ Oth b
  let β0 : Nat → Option Nat := fun i => β (f i)
  have hown0 : ∀ b, (ext0 b ∨ owns β0 L b) ↔ (ext b ∨ owns β h b) := fun b => by
    constructor
    · rintro ((h1 | ⟨id, o, h1, h2, _⟩) | ⟨i, o, h1, h2⟩)
      · exact .inl h1
      · exact .inr ⟨id, o, h1, h2⟩
      · exact .inr ⟨f i, renO f o, hL _ (lk_mem h1), h2⟩
    · rintro (h1 | ⟨id, o, h1, h2⟩)
      · exact .inl (.inl h1)
      · by_cases hx : ∃ i, i ∈ L.map (·.1) ∧ f i = id
        · obtain ⟨i, hi, rfl⟩ := hx
          obtain ⟨o', ho'⟩ := lk_some_of hi
          exact .inr ⟨i, o', ho', h2⟩
        · exact .inl (.inr ⟨id, o, h1, h2, fun i hi e => hx ⟨i, hi, e⟩⟩)
  have R0 : Ren f (fun i => i ∈ L.map (·.1)) (cx ext0 β0 L w) (cx ext β h w) := ⟨rfl, hown0, hlkL, fun _ _ => rfl⟩
  have hin0 : HIn ext0 β0 (Lt nx) L w := by
    refine ⟨fun i o ho => ?_, fun i o ho => ⟨hlt _ (lk_mem ho), (hLf _ (lk_mem ho)).nm fun j hj => ?_⟩, fun i i' o o' b h1 h2 h3 h4 => ?_, fun b hb => ?_⟩
    · exact R0.obDown (List.mem_map.2 ⟨_, lk_mem ho, rfl⟩) (hLf _ (lk_mem ho)) (hin.ob _ _ (hL _ (lk_mem ho)))
    · obtain ⟨e, he, rfl⟩ := List.mem_map.1 hj
      exact hlt e he
    · exact hinj i i' (hKU i (List.mem_map.2 ⟨_, lk_mem h1, rfl⟩)) (hKU i' (List.mem_map.2 ⟨_, lk_mem h2, rfl⟩)) (hin.inj _ _ _ _ b (hL _ (lk_mem h1)) (hL _ (lk_mem h2)) h3 h4)
    · rcases hb with hb | ⟨id, o, h1, h2, h3⟩
      · exact ⟨(hin.ext b hb).1, fun ⟨i, o, h1, h2⟩ => (hin.ext b hb).2 ⟨f i, _, hL _ (lk_mem h1), h2⟩⟩
      · refine ⟨hin.lt ⟨id, o, h1, h2⟩, fun ⟨i, o', h4, h5⟩ => ?_⟩
        exact h3 i (List.mem_map.2 ⟨_, lk_mem h4, rfl⟩) (hin.inj _ _ _ _ b (hL _ (lk_mem h4)) h1 h5 h2)
  refine (hc.run ext0 β0 w vs hin0 hsz (fun x hx => (ha x hx).nm fun j hj => ?_) (fun k x v hx hv => ?_)).mono ?_
  · obtain ⟨e, he, rfl⟩ := List.mem_map.1 hj
    exact hlt e he
  · exact R0.downA (ha x (List.mem_of_getElem? hx)) (hrel k _ v (by rw [List.getElem?_map, hx]; rfl) hv)
  rintro e w' ⟨v, r, β1, h1, nx1, rfl, ⟨rfl, rfl⟩, hle, hin1, hnr, hvr, hev, hst⟩
  -- the blocks behind the call
  let K : List Nat := (N ++ U).map (·.1)
  let fnd : Nat → Option Nat := fun id => K.find? fun i => decide (f i = id)
  have hfnd : ∀ i, i ∈ K → fnd (f i) = some i := fun i hi => by
    have h1 : (K.find? fun j => decide (f j = f i)).isSome = true := by rw [List.find?_isSome]; exact ⟨i, hi, by simp⟩
    obtain ⟨j, hj⟩ := Option.isSome_iff_exists.1 h1
    have h2 := List.find?_some hj
    have h3 := hinj j i (List.mem_of_find?_eq_some hj) hi (by simpa using h2)
    show K.find? _ = some i
    rw [hj, h3]
  have hfnd0 : ∀ id, (∀ i, i ∈ K → f i ≠ id) → fnd id = none := fun id hn => by
    show K.find? _ = none
    rw [List.find?_eq_none]
    intro i hi
    simpa using hn i hi
  let β' : Nat → Option Nat := fun id => match fnd id with | some i => β1 i | none => β id
  have hβK : ∀ i, i ∈ K → β' (f i) = β1 i := fun i hi => by show (match fnd (f i) with | some i => β1 i | none => β (f i)) = _; rw [hfnd i hi]
  have hβO : ∀ id, (∀ i, i ∈ K → f i ≠ id) → β' id = β id := fun id hn => by show (match fnd id with | some i => β1 i | none => β id) = _; rw [hfnd0 id hn]
  -- the heap behind the call
  have hmemK : ∀ e, e ∈ N ++ U → e.1 ∈ K := fun e he => List.mem_map.2 ⟨e, he, rfl⟩
  have hlkK : ∀ i, i ∈ K → lk (renH f N ++ upds h (renH f U)) (f i) = (lk (N ++ U) i).map (renO f) := fun i hi => by
    rw [lk_append, lk_append, lk_renH (K := fun i => i ∈ K) hinj hi fun e he => hKN e he]
    cases hN : lk N i with
    | some o => rfl
    | none =>
      simp only [Option.map_none, Option.none_or]
      have hiU : i ∈ U.map (·.1) := by
        rcases List.mem_append.1 (by rw [← List.map_append]; exact hi) with h2 | h2
        · exact absurd h2 (lk_none hN)
        · exact h2
      obtain ⟨o, ho⟩ := lk_some_of hiU
      rw [ho]
      refine lk_upds_in (K := fun i => i ∈ K) hinj U h hndU (fun e he => hmemK e (List.mem_append_right _ he)) (fun e he => ?_) (i, o) (lk_mem ho)
      have : e.1 ∈ L.map (·.1) := hU ▸ List.mem_map.2 ⟨e, he, rfl⟩
      obtain ⟨q, hq⟩ := lk_some_of this
      rw [hlkL e.1 this, hq]
      rfl
  have hlkO : ∀ id, (∀ i, i ∈ K → f i ≠ id) → lk (renH f N ++ upds h (renH f U)) id = lk h id := fun id hn => by
    rw [lk_append, lk_renH_none fun e he => hn e.1 (hKN e he), Option.none_or, lk_upds_ne]
    intro q hq
    obtain ⟨q', hq', rfl⟩ := renH_mem hq
    exact hn q'.1 (hmemK q' (List.mem_append_right _ hq'))
  have hsplit : ∀ id, (∃ i, i ∈ K ∧ id = f i) ∨ ∀ i, i ∈ K → f i ≠ id := fun id => by
    by_cases hx : ∃ i, i ∈ K ∧ id = f i
    · exact .inl hx
    · exact .inr fun i hi e => hx ⟨i, hi, e.symm⟩
  -- an object that is not the function's: it was there
  have hOthK : ∀ id o, lk h id = some o → (∀ i, i ∈ L.map (·.1) → f i ≠ id) → ∀ i, i ∈ K → f i ≠ id := fun id o ho hn i hi e => by
    rcases List.mem_append.1 (by rw [← List.map_append]; exact hi) with h2 | h2
    · obtain ⟨q, hq, rfl⟩ := List.mem_map.1 h2
      exact hfresh q hq (e ▸ (hin.nm id o ho).1)
    · exact hn i (hU ▸ h2) e
  have hown1 : ∀ b, (ext0 b ∨ owns β1 (N ++ U) b) ↔ (ext b ∨ owns β' (renH f N ++ upds h (renH f U)) b) := fun b => by
    constructor
    · rintro ((h2 | ⟨id, o, h2, h3, h4⟩) | ⟨i, o, h2, h3⟩)
      · exact .inl h2
      · have hn := hOthK id o h2 h4
        exact .inr ⟨id, o, by rw [hlkO id hn]; exact h2, by rw [hβO id hn]; exact h3⟩
      · have hi : i ∈ K := hmemK _ (lk_mem h2)
        exact .inr ⟨f i, renO f o, by rw [hlkK i hi, h2]; rfl, by rw [hβK i hi]; exact h3⟩
    · rintro (h2 | ⟨id, o, h2, h3⟩)
      · exact .inl (.inl h2)
      · rcases hsplit id with ⟨i, hi, rfl⟩ | hn
        · rw [hlkK i hi] at h2
          rw [hβK i hi] at h3
          obtain ⟨o', ho'⟩ := lk_some_of hi
          exact .inr ⟨i, o', ho', h3⟩
        · rw [hlkO id hn] at h2
          rw [hβO id hn] at h3
          exact .inl (.inr ⟨id, o, h2, h3, fun i hi => hn i (hKU i hi)⟩)
  have R1 : Ren f (fun i => i ∈ K) (cx ext0 β1 (N ++ U) w') (cx ext β' (renH f N ++ upds h (renH f U)) w') := ⟨rfl, hown1, hlkK, fun i hi => (hβK i hi).symm⟩
  have hpK : ∀ i, i ∈ K → (fun j => p j ∨ ∃ e, e ∈ N ∧ j = f e.1) (f i) := fun i hi => by
    rcases List.mem_append.1 (by rw [← List.map_append]; exact hi) with h2 | h2
    · obtain ⟨q, hq, rfl⟩ := List.mem_map.1 h2
      exact .inr ⟨q, hq, rfl⟩
    · exact .inl (hpL i (hU ▸ h2))
  have hstep : Step p (cx ext β h w) (cx ext β' (renH f N ++ upds h (renH f U)) w') := by
    refine ⟨fun b o v h2 h3 => ?_, fun b x hx => hst.shape b x hx, fun id hid esz rows hr => ?_, fun id hid es hr => ?_⟩
    · obtain ⟨h4, h5⟩ := hst.cell b o v (fun h6 => h2 ((hown0 b).1 h6)) h3
      exact ⟨fun h6 => h4 ((hown1 b).2 h6), h5⟩
    · have hr : lk (renH f N ++ upds h (renH f U)) id = some (.arr esz rows) := hr
      rcases hsplit id with ⟨i, hi, rfl⟩ | hn
      · have hiL : i ∈ L.map (·.1) := by
          rcases List.mem_append.1 (by rw [← List.map_append]; exact hi) with h2 | h2
          · obtain ⟨q, hq, rfl⟩ := List.mem_map.1 h2
            exact absurd hid (hfresh q hq)
          · exact hU ▸ h2
        rw [hlkK i hi] at hr
        obtain ⟨o, ho⟩ := lk_some_of hi
        rw [ho] at hr
        cases o with
        | mp m => simp [renO] at hr
        | arr esz1 rows1 =>
          simp only [Option.map_some, renO, Option.some.injEq, Ob.arr.injEq] at hr
          obtain ⟨rfl, rfl⟩ := hr
          obtain ⟨rows', h2, h3, h4⟩ := hst.arr i (by obtain ⟨q, hq, rfl⟩ := List.mem_map.1 hiL; exact hlt q hq) esz1 rows1 ho
          refine ⟨rows'.map fun r => r.map (ren0 f), ?_, by simpa using h3, fun e => ?_⟩
          · show lk h (f i) = _
            have h2 : lk L i = some (.arr esz1 rows') := h2
            rw [hlkL i hiL, h2]
            rfl
          · simp only [List.length_map] at e
            show β' (f i) = β (f i)
            rw [hβK i hi]
            exact h4 e
      · rw [hlkO id hn] at hr
        exact ⟨rows, hr, Nat.le_refl _, fun _ => hβO id hn⟩
    · have hr : lk (renH f N ++ upds h (renH f U)) id = some (.mp es) := hr
      rcases hsplit id with ⟨i, hi, rfl⟩ | hn
      · have hiL : i ∈ L.map (·.1) := by
          rcases List.mem_append.1 (by rw [← List.map_append]; exact hi) with h2 | h2
          · obtain ⟨q, hq, rfl⟩ := List.mem_map.1 h2
            exact absurd hid (hfresh q hq)
          · exact hU ▸ h2
        rw [hlkK i hi] at hr
        obtain ⟨o, ho⟩ := lk_some_of hi
        rw [ho] at hr
        cases o with
        | arr _ _ => simp [renO] at hr
        | mp m =>
          simp only [Option.map_some, renO, Option.some.injEq, Ob.mp.injEq] at hr
          subst hr
          obtain ⟨es', h2, h3⟩ := hst.mp i (by obtain ⟨q, hq, rfl⟩ := List.mem_map.1 hiL; exact hlt q hq) m ho
          refine ⟨es', ?_, ?_⟩
          · show lk h (f i) = _
            have h2 : lk L i = some (.mp es') := h2
            rw [hlkL i hiL, h2]
            rfl
          · show β' (f i) = β (f i)
            rw [hβK i hi]
            exact h3
      · rw [hlkO id hn] at hr
        exact ⟨es, hr, hβO id hn⟩
  have hobO : ∀ id o, lk h id = some o → (∀ i, i ∈ K → f i ≠ id) → ObIn (cx ext β' (renH f N ++ upds h (renH f U)) w') id o := fun id o ho hn => by
    refine ObIn.step hstep (hβO id hn) (fun b hb => ?_) (hin.nm id o ho).2 (hin.ob id o ho)
    have hb : β id = some b := hb
    refine hev.keep b (hin.lt ⟨id, o, ho, hb⟩) fun h2 => ?_
    exact (hin0.ext b (.inr ⟨id, o, ho, hb, fun i hi => hn i (hKU i hi)⟩)).2 h2
  refine ⟨v, β', rfl, ⟨fun id o ho => ?_, fun id o ho => ?_, fun id id' o o' b h2 h3 h4 h5 => ?_, fun b hb => ?_⟩, R1.upA hr hvr, renA_leaf hpK hr, ⟨hev.size, fun b hb hn => hev.keep b hb fun h2 => ?_, fun b hb h2 => ?_, hev.shape, hev.rest⟩, hstep⟩
  · rcases hsplit id with ⟨i, hi, rfl⟩ | hn
    · rw [hlkK i hi] at ho
      obtain ⟨o1, ho1⟩ := lk_some_of hi
      rw [ho1] at ho
      injection ho with ho
      subst ho
      exact R1.obUp hi (hNU _ (lk_mem ho1)) (hin1.ob _ _ ho1)
    · rw [hlkO id hn] at ho
      exact hobO id o ho hn
  · rcases hsplit id with ⟨i, hi, rfl⟩ | hn
    · rw [hlkK i hi] at ho
      obtain ⟨o1, ho1⟩ := lk_some_of hi
      rw [ho1] at ho
      injection ho with ho
      subst ho
      exact ⟨hpK i hi, renO_nm hpK (hNU _ (lk_mem ho1))⟩
    · rw [hlkO id hn] at ho
      exact ⟨.inl (hin.nm id o ho).1, Ob.nm_mono (fun _ h => .inl h) (hin.nm id o ho).2⟩
  · have mixed : ∀ i id o b, i ∈ K → (∀ i, i ∈ K → f i ≠ id) → lk h id = some o → β id = some b → β1 i = some b → False := fun i id o b hi hn ho hb hb1 => by
      obtain ⟨o1, ho1⟩ := lk_some_of hi
      exact (hin1.ext b (.inr ⟨id, o, ho, hb, fun i hi => hn i (hKU i hi)⟩)).2 ⟨i, o1, ho1, hb1⟩
    rcases hsplit id with ⟨i, hi, rfl⟩ | hn <;> rcases hsplit id' with ⟨i', hi', rfl⟩ | hn'
    · rw [hβK i hi] at h4
      rw [hβK i' hi'] at h5
      obtain ⟨o1, ho1⟩ := lk_some_of hi
      obtain ⟨o2, ho2⟩ := lk_some_of hi'
      rw [hin1.inj i i' o1 o2 b ho1 ho2 h4 h5]
    · rw [hβK i hi] at h4
      rw [hβO id' hn'] at h5
      rw [hlkO id' hn'] at h3
      exact (mixed i id' o' b hi hn' h3 h5 h4).elim
    · rw [hβO id hn] at h4
      rw [hlkO id hn] at h2
      rw [hβK i' hi'] at h5
      exact (mixed i' id o b hi' hn h2 h4 h5).elim
    · rw [hβO id hn] at h4
      rw [hlkO id hn] at h2
      rw [hβO id' hn'] at h5
      rw [hlkO id' hn'] at h3
      exact hin.inj id id' o o' b h2 h3 h4 h5
  · refine ⟨(hin1.ext b (.inl hb)).1, fun h2 => ?_⟩
    obtain ⟨id, o, h2, h3⟩ := h2
    rcases hsplit id with ⟨i, hi, rfl⟩ | hn
    · obtain ⟨o1, ho1⟩ := lk_some_of hi
      rw [hβK i hi] at h3
      exact (hin1.ext b (.inl hb)).2 ⟨i, o1, ho1, h3⟩
    · rw [hlkO id hn] at h2
      rw [hβO id hn] at h3
      exact (hin.ext b hb).2 ⟨id, o, h2, h3⟩
  · obtain ⟨i, o, h2, h3⟩ := h2
    exact hn ⟨f i, _, hL _ (lk_mem h2), h3⟩
  · obtain ⟨id, o, h2, h3⟩ := h2
    rcases hsplit id with ⟨i, hi, rfl⟩ | hn
    · obtain ⟨o1, ho1⟩ := lk_some_of hi
      rw [hβK i hi] at h3
      obtain ⟨j, q, h4, h5⟩ := hev.fresh b hb ⟨i, o1, ho1, h3⟩
      exact ⟨f j, _, hL _ (lk_mem h4), h5⟩
    · rw [hlkO id hn] at h2
      rw [hβO id hn] at h3
      exact ⟨id, o, h2, h3⟩

end
end Go.AM
