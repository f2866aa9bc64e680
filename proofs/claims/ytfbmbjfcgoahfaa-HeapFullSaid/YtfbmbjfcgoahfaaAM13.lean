/-
  AM, part 13: functions that only read; what they hand back; calls.
-/
import Derived.Test.YtfbmbjfcgoahfaaAM12
namespace Go.AM
open Go

def Callable (P : Program) (g : FuncId) : Prop := ∃ fn, P.funcs[g]? = some fn ∧ (fn.name == "runtime.NumGoroutine") = false ∧ fn.body.isNone = false

theorem run_callFunc {P : Program} {g : FuncId} (hc : Callable P g) (args : Array Value) (w : World) : (callFunc g args).run P w = .ok (.enter g args) w := by
  obtain ⟨fn, h1, h2, h3⟩ := hc
  simp only [callFunc, Sem.run_bind, run_program, Result.andThen_ok, h1, h2, h3, Bool.false_eq_true, if_false]
  rfl

/-- A function is called, of values that nobody writes: it returns one that is so, too, and writes nothing that was there. -/
structure PCall (P : Program) (g : FuncId) (args : List AVal) (Q : AVal → Prop) : Prop where
  callable : Callable P g
  run : ∀ (ext : Nat → Prop) (w : World) (vs : Array Value), (∀ b, ext b → b < w.heap.size) → vs.size = args.length →
    (∀ (k : Nat) x v, args[k]? = some x → vs[k]? = some v → VRel (cx ext (fun _ => none) [] w) x v) →
    Calls P g vs w fun e w' => ∃ v r, e = .returned v ∧ Q r ∧ Fz r ∧ VRel (cx ext (fun _ => none) [] w') r v ∧ Evo (fun _ => False) w (fun _ => False) w'

theorem PCall.mono {P : Program} {g : FuncId} {args : List AVal} {Q Q' : AVal → Prop} (h : PCall P g args Q) (hq : ∀ r, Q r → Q' r) : PCall P g args Q' :=
  ⟨h.callable, fun ext w vs h1 h2 h3 => (h.run ext w vs h1 h2 h3).mono fun _ _ ⟨v, r, a, b, c, d⟩ => ⟨v, r, a, hq r b, c, d⟩⟩

def resA (P : Program) (s : St) : ResultVar → Option AVal
  | .tmp t => some (s.tmps.getD t .junk)
  | .cell a t => aload P s.h t (s.tmps.getD a .junk)

def resAs (P : Program) (s : St) : List ResultVar → Option (List AVal)
  | [] => some []
  | r :: rs => match resA P s r, resAs P s rs with | some x, some xs => some (x :: xs) | _, _ => none

def packA : List AVal → AVal
  | [x] => x
  | xs => .tuple xs

/-- What a function's end has to be. -/
def retQ (P : Program) (rs : List ResultVar) (Q : AVal → Prop) : Exit → St → Prop
  | .normal, s => ∃ xs r, resAs P s rs = some xs ∧ Frz s.h (fun _ => True) (packA xs) r ∧ Fz r ∧ Q r
  | .ret, s => ∃ xs r, resAs P s rs = some xs ∧ Frz s.h (fun _ => True) (packA xs) r ∧ Fz r ∧ Q r
  | _, _ => False

/-- The machine's look at a result. -/
def resS (tmps : Array Value) : ResultVar → Sem Value
  | .tmp t => pure (tmps.getD t undef)
  | .cell a t => do loadVar t (← asAddr (tmps.getD a undef))

section
variable {P : Program} {n0 : Nat} {ext : Nat → Prop} {β : Nat → Option Nat}

theorem resA_ok {s : St} {a : Act} {w : World} (i : SIn n0 ext β s a w) {r : ResultVar} {x : AVal} (h : resA P s r = some x) :
    ∃ v, (resS a.tmps r).run P w = .ok v w ∧ VRel (cx ext β s.h w) x v := by
  cases r with
  | tmp t =>
    simp only [resA] at h
    injection h with h
    subst h
    exact ⟨_, rfl, i.ev (.tmp t)⟩
  | cell b t =>
    simp only [resA] at h
    obtain ⟨u, h1, h2, _⟩ := aload_ok i.heap (i.ev (.tmp b)) (i.nm_ev (.tmp b)) h
    refine ⟨u, ?_, h2⟩
    have h3 : Act.eval a (.tmp b) = a.tmps.getD b undef := rfl
    rw [h3] at h1
    show (asAddr (a.tmps.getD b undef) >>= fun ad => loadVar t ad).run P w = _
    revert h1
    generalize a.tmps.getD b undef = v
    intro h1
    cases v <;> simp [Instr.loadAt, Instr.sureAddr] at h1
    rename_i ad
    cases ad <;> simp at h1
    simpa [asAddr] using h1

theorem resAs_ok {s : St} {a : Act} {w : World} (i : SIn n0 ext β s a w) : ∀ {rs : List ResultVar} {xs : List AVal}, resAs P s rs = some xs →
    ∃ vs : List Value, (rs.mapM (resS a.tmps)).run P w = .ok vs w ∧ vs.length = xs.length ∧
      ∀ (k : Nat) x v, xs[k]? = some x → vs[k]? = some v → VRel (cx ext β s.h w) x v
  | [], xs, h => by simp [resAs] at h; subst h; exact ⟨[], by simp, rfl, by simp⟩
  | r :: rs, xs, h => by
    simp only [resAs] at h
    split at h
    case h_2 => cases h
    rename_i x xs' h1 h2
    injection h with h
    subst h
    obtain ⟨v, h3, h4⟩ := resA_ok i h1
    obtain ⟨vs, h5, h6, h7⟩ := resAs_ok i h2
    refine ⟨v :: vs, ?_, by simp [h6], fun k y u hy hu => ?_⟩
    · rw [List.mapM_cons]
      simp only [Sem.run_bind]
      rw [h3]
      simp only [Result.andThen_ok]
      rw [h5]
      simp
    · cases k with
      | zero => simp at hy hu; exact hy ▸ hu ▸ h4
      | succ k => exact h7 k y u (by simpa using hy) (by simpa using hu)

theorem results_ok {s : St} {a : Act} {w : World} (i : SIn n0 ext β s a w) {fn : Func} {xs : List AVal} (h : resAs P s fn.results.toList = some xs) :
    ∃ v, (results fn a.tmps).run P w = .ok v w ∧ VRel (cx ext β s.h w) (packA xs) v := by
  obtain ⟨vs, h1, h2, h3⟩ := resAs_ok i h
  have hr : (fn.results.mapM (resS a.tmps)).run P w = .ok vs.toArray w := by
    rw [Array.mapM_eq_mapM_toList, Sem.run_map, h1]
    rfl
  refine ⟨if hh : vs.toArray.size = 1 then vs.toArray[0] else .tuple vs.toArray, ?_, ?_⟩
  · unfold results
    simp only [Sem.run_bind]
    refine (congrArg (fun r => Result.andThen r _) hr).trans ?_
    simp
  · match xs, vs, h2 with
    | [x], [v], _ => simpa [packA] using h3 0 x v rfl rfl
    | [], [], _ => exact .tuple _ _ (by simp) (by simp)
    | x :: y :: xs, v :: u :: vs, h2 =>
      have : ¬ ((v :: u :: vs).toArray.size = 1) := by simp
      rw [dif_neg this]
      exact .tuple _ _ (by simpa using h2) fun k x v hx hv => h3 k x v hx (by simpa using hv)

/-- A function, by its body. -/
theorem PCall_intro {g : FuncId} {args : List AVal} {Q : AVal → Prop} {fn : Func} {c : Code} (hf : P.funcs[g]? = some fn) (hb : fn.body = some c) (hname : (fn.name == "runtime.NumGoroutine") = false)
    (hargs : ∀ x, x ∈ args → Fz x) (h : AWP P 0 c (retQ P fn.results.toList Q) ⟨args ++ List.replicate (fn.ntmps - args.length) .junk, [], 0⟩) : PCall P g args Q := by
  refine ⟨⟨fn, hf, hname, by rw [hb]; rfl⟩, fun ext w vs hext hl hr => ?_⟩
  have hno : ∀ b, ¬ owns (fun _ => none) [] b := fun b ⟨_, _, h1, _⟩ => by simp [lk] at h1
  have i : SIn 0 ext (fun _ => none) ⟨args ++ List.replicate (fn.ntmps - args.length) .junk, [], 0⟩ { tmps := vs ++ Array.replicate (fn.ntmps - vs.size) undef, defers := [] } w := by
    refine ⟨⟨fun id o ho => by simp [lk] at ho, fun id o ho => by simp [lk] at ho, fun id id' o o' b h1 => by simp [lk] at h1, fun b hb => ⟨hext b hb, hno b⟩⟩, by simp [hl], fun k x v hx hv => ?_, fun x hx => ?_, rfl, fun j hj => hj⟩
    · by_cases hk : k < args.length
      · rw [List.getElem?_append_left hk] at hx
        rw [Array.getElem?_append_left (by rw [hl]; exact hk)] at hv
        exact hr k x v hx hv
      · rw [List.getElem?_append_right (by omega), List.getElem?_replicate] at hx
        split at hx
        · injection hx with hx; exact hx ▸ .junk v
        · cases hx
    · rcases List.mem_append.1 hx with hx | hx
      · exact Fz.nm (hargs x hx) _
      · rw [List.mem_replicate] at hx; rw [hx.2]; exact .junk
  refine calls_of_wp hf hb (wp_mono (h ext (fun _ => none) _ w i) ?_)
  rintro e a' w' ⟨β', s', q, i', gs⟩
  have hfin : (∃ xs r, resAs P s' fn.results.toList = some xs ∧ Frz s'.h (fun _ => True) (packA xs) r ∧ Fz r ∧ Q r) →
      a'.defers = [] ∧ ∃ v, (results fn a'.tmps).run P w' = .ok v w' ∧ ∃ v' r, Ending.returned v = .returned v' ∧ Q r ∧ Fz r ∧ VRel (cx ext (fun _ => none) [] w') r v' ∧ Evo (fun _ => False) w (fun _ => False) w' := by
    rintro ⟨xs, r, h1, h2, h3, h4⟩
    obtain ⟨v, h5, h6⟩ := results_ok i' h1
    refine ⟨i'.defers, v, h5, v, r, rfl, h4, h3, Frz.rel i'.heap (fun b hb => .inl hb) (fun id o b _ hl hb hx => (i'.heap.ext b hx).2 ⟨id, o, hl, hb⟩) h2 v h6, ?_⟩
    exact ⟨gs.evo.size, fun b hb _ => gs.evo.keep b hb (hno b), fun _ _ h => h, gs.evo.shape, gs.evo.rest⟩
  cases e with
  | normal => exact hfin q
  | ret => exact hfin q
  | exit id => exact q.elim
  | goto l => exact q.elim
  | panic c => exact q.elim
  | outgrown => exact q.elim

end

/-- A function is called, of values that nobody writes: it hands back a value that names one new object. 'x': the value, by the object's number. -/
structure PNew (P : Program) (g : FuncId) (args : List AVal) (x : Nat → AVal) (ob : Ob) : Prop where
  callable : Callable P g
  run : ∀ (ext : Nat → Prop) (β : Nat → Option Nat) (p : Nat → Prop) (h : Heap) (w : World) (vs : Array Value) (fresh : Nat), HIn ext β p h w → ¬ p fresh → vs.size = args.length →
    (∀ (k : Nat) x v, args[k]? = some x → vs[k]? = some v → VRel (cx (fun b => ext b ∨ owns β h b) (fun _ => none) [] w) x v) →
    Calls P g vs w fun e w' => ∃ v β', e = .returned v ∧ HIn ext β' (fun j => p j ∨ j = fresh) ((fresh, ob) :: h) w' ∧ VRel (cx ext β' ((fresh, ob) :: h) w') (x fresh) v ∧ Nm (fun j => p j ∨ j = fresh) (x fresh) ∧
      Evo (owns β h) w (owns β' ((fresh, ob) :: h)) w' ∧ Step p (cx ext β h w) (cx ext β' ((fresh, ob) :: h) w')

/-! ### Calls in a row of operations -/

section
variable {P : Program} {n0 : Nat} {all : Array Oper} {K : St → Prop}

theorem HIn.lt {ext : Nat → Prop} {β : Nat → Option Nat} {p : Nat → Prop} {h : Heap} {w : World} (hin : HIn ext β p h w) {b : Nat} (hb : owns β h b) : b < w.heap.size := by
  obtain ⟨j, x, hj, hc⟩ := hb
  have := hin.ob j x hj
  cases x with
  | arr esz rows =>
    obtain ⟨_, h2⟩ := this
    have hc' : (cx ext β h w).β j = some b := hc
    rw [hc'] at h2
    obtain ⟨cs, e, h3, _⟩ := h2
    exact (Array.getElem?_eq_some_iff.1 h3).1
  | mp es =>
    obtain ⟨b', ms, h1, h2, _⟩ := this
    have : b' = b := by have := h1.symm.trans hc; simpa using this
    exact this ▸ (Array.getElem?_eq_some_iff.1 h2).1

/-- Blocks that others write stay as they are. -/
theorem HIn.evo {ext : Nat → Prop} {β : Nat → Option Nat} {p : Nat → Prop} {h : Heap} {w w' : World} (hin : HIn ext β p h w) (hev : Evo (fun _ => False) w (fun _ => False) w') :
    HIn ext β p h w' ∧ Evo (owns β h) w (owns β h) w' ∧ ∀ q, Step q (cx ext β h w) (cx ext β h w') := by
  have st : ∀ q, Step q (cx ext β h w) (cx ext β h w') := fun q =>
    ⟨fun b o v h1 h2 => ⟨h1, (cell_of_heap (hev.keep b (cell_lt h2) (fun h => h)) o).trans h2⟩, hev.shape, fun _ _ _ rows h => ⟨rows, h, Nat.le_refl _, fun _ => rfl⟩, fun _ _ es h => ⟨es, h, rfl⟩⟩
  exact ⟨⟨fun id o ho => ObIn.step (st p) rfl (fun b hb => hev.keep b (hin.lt ⟨id, o, ho, hb⟩) (fun h => h)) (hin.nm id o ho).2 (hin.ob id o ho), hin.nm, hin.inj, fun b hb => ⟨Nat.lt_of_lt_of_le (hin.ext b hb).1 hev.size, (hin.ext b hb).2⟩⟩,
    ⟨hev.size, fun b hb _ => hev.keep b hb (fun h => h), fun _ _ h => h, hev.shape, hev.rest⟩, st⟩

/-- A value that holds no address. -/
def Flat (x : AVal) : Prop := ∀ c d v, VRel c x v → VRel d x v

/-- The operands of a call, and its target. -/
def target (tmps : List AVal) (c : Call) : Option (FuncId × List AVal) :=
  match c.callee with
  | .value f => match ev tmps f with | .func (.func g) first captured => some (g, first ++ evs tmps c.args ++ captured) | _ => none
  | _ => none

theorem target_ok {ext : Nat → Prop} {β : Nat → Option Nat} {p : Nat → Prop} {tmps : List AVal} {h : Heap} {a : Act} {w : World} (i : SInP n0 ext β p tmps h a w) {o : Oper} {c : Call} (ho : o.op = .call c) {g : FuncId} {args : List AVal}
    (ht : target tmps c = some (g, args)) (hc : Callable P g) : ∃ vs : Array Value, (execOp a.eval o).run P w = .ok (.enter g vs) w ∧ vs.size = args.length ∧
      ∀ (k : Nat) x v, args[k]? = some x → vs[k]? = some v → VRel (cx ext β h w) x v := by
  unfold target at ht
  split at ht
  case h_2 => cases ht
  rename_i f hf
  split at ht
  case h_2 => cases ht
  rename_i g' first captured hev
  injection ht with ht
  injection ht with e1 e2
  subst e1 e2
  have hv := i.ev f
  rw [hev] at hv
  generalize hz : a.eval f = z at hv
  cases hv with | func _ _ _ vs us l l' r r' =>
  obtain ⟨e1, e2, _⟩ := evs_rel i c.args
  refine ⟨vs ++ c.args.map a.eval ++ us, ?_, ?_, fun k x v hx hv => ?_⟩
  · have hex : execOp a.eval o = (do let d ← resolve a.eval c o.type; invoke d.target d.args) := by simp only [execOp, ho]
    rw [hex]
    simp only [resolve, hf, hz, Deferred.ofValue, Sem.run_bind, Sem.run_pure, Result.andThen_ok, invoke]
    exact run_callFunc hc _ w
  · rw [Array.size_append, Array.size_append, e1, l, l']; simp; omega
  · by_cases h1 : k < first.length
    · rw [List.append_assoc, List.getElem?_append_left h1] at hx
      rw [Array.append_assoc, Array.getElem?_append_left (by rw [l]; exact h1)] at hv
      exact r k x v hx hv
    · rw [List.append_assoc, List.getElem?_append_right (by omega)] at hx
      rw [Array.append_assoc, Array.getElem?_append_right (by rw [l]; omega), l] at hv
      by_cases h2 : k - first.length < (evs tmps c.args).length
      · rw [List.getElem?_append_left h2] at hx
        rw [Array.getElem?_append_left (by rw [e1]; exact h2)] at hv
        exact e2 _ x v hx hv
      · rw [List.getElem?_append_right (by omega)] at hx
        rw [Array.getElem?_append_right (by rw [e1]; omega), e1] at hv
        exact r' _ x v hx hv

/-- A call, of values some of which stand in objects: what is handed on is frozen, those objects are given away. -/
theorem AO_call {o : Oper} {rest : List Oper} {i : Nat} {s : St} {c : Call} {g : FuncId} {args args' : List AVal} {Q : AVal → Prop} {h2 : Heap} (hg : guardA all s.tmps o = some true) (ho : o.op = .call c) (ht : target s.tmps c = some (g, args))
    (hp : PCall P g args' Q) (hlen : args'.length = args.length) (hh : ∀ id ob, lk h2 id = some ob → lk s.h id = some ob)
    (hf : ∀ (k : Nat) x y, args[k]? = some x → args'[k]? = some y → Frz s.h (fun id => lk h2 id = none) x y)
    (h : ∀ r, Q r → AO P n0 all rest (i + 1) K ⟨putT s.tmps o.dst r, h2, s.nx + 1⟩) : AO P n0 all (o :: rest) i K s := by
  refine AO_cons fun ext β a w hs hoo Q' next hnext => ?_
  rw [guard_ok hs hg, if_pos rfl]
  refine .inl ?_
  obtain ⟨vs, hrun, hsz, hrel⟩ := target_ok hs ho ht hp.callable
  unfold Oper.wp
  rw [hrun, Oper.upon_enter]
  -- what stays is given up for the time
  have hw : Weak n0 s ⟨s.tmps, h2, s.nx⟩ := ⟨rfl, fun k x hx => .inr hx, hh, hs.nm, fun id ob ho => hs.heap.nm id ob (hh id ob ho), by
    rcases Nat.lt_or_ge s.nx n0 with h8 | h8
    · exact absurd (hs.low s.nx h8) (Nat.lt_irrefl _)
    · exact h8⟩
  obtain ⟨hs2, hg2⟩ := hs.weak hw
  have hown2 : ∀ b, owns β h2 b → owns β s.h b := fun b ⟨id, ob, h1, h3⟩ => ⟨id, ob, hh id ob h1, h3⟩
  have hargs : ∀ (k : Nat) y v, args'[k]? = some y → vs[k]? = some v → VRel (cx (fun b => ext b ∨ owns β h2 b) (fun _ => none) [] w) y v := fun k y v hy hv => by
    have hlt : k < args.length := by rw [← hlen]; exact (List.getElem?_eq_some_iff.1 hy).1
    refine Frz.rel hs.heap (fun b hb => hb.imp (fun h => h) (hown2 b)) (fun id ob b hS hl hb hx => ?_) (hf k args[k] y (List.getElem?_eq_getElem hlt) hy) v (hrel k _ v (List.getElem?_eq_getElem hlt) hv)
    rcases hx with hx | ⟨id', ob', h3, h4⟩
    · exact (hs.heap.ext b hx).2 ⟨id, ob, hl, hb⟩
    · have : id = id' := hs.heap.inj id id' ob ob' b hl (hh id' ob' h3) hb h4
      subst this
      rw [hS] at h3; cases h3
  refine (hp.run (fun b => ext b ∨ owns β h2 b) w vs (fun b hb => hb.elim (fun h => (hs.heap.ext b h).1) (fun h => hs2.heap.lt h)) (by rw [hsz, hlen]) hargs).mono ?_
  rintro e w' ⟨v, r, rfl, hq, hfz, hv, hev⟩
  obtain ⟨k1, k2, k3⟩ := hs2.heap.evo hev
  have hno : ∀ b, ¬ owns (fun _ => none) [] b := fun b ⟨_, _, h1, _⟩ => by simp [lk] at h1
  have st : Step (fun _ => False) (cx (fun b => ext b ∨ owns β h2 b) (fun _ => none) [] w') (cx ext β h2 w') :=
    ⟨fun b o v h1 h4 => ⟨fun h3 => h1 (Or.inl h3), h4⟩, fun _ _ h => h, fun _ h => h.elim, fun _ h => h.elim⟩
  have hv' : VRel (cx ext β h2 w') r v := hv.step st hfz
  have hpq : ∀ j, Lt s.nx j → Lt (s.nx + 1) j := fun j hj => by simp only [Lt] at *; omega
  have hs3 : SIn n0 ext β ⟨putT s.tmps o.dst r, h2, s.nx + 1⟩ (a.put o.dst v) w' := (hs2.put k1 (fun _ => id) (k3 _) hv' (Fz.nm hfz _) o.dst).mono hpq
  exact hnext β _ _ _ (h r hq) hs3 (hg2.trans ⟨k2, k3 _⟩)

/-- A call that hands back numbers, texts, truths: nothing is given away. -/
theorem AO_callF {o : Oper} {rest : List Oper} {i : Nat} {s : St} {c : Call} {g : FuncId} {args args' : List AVal} {Q : AVal → Prop} (hg : guardA all s.tmps o = some true) (ho : o.op = .call c) (ht : target s.tmps c = some (g, args))
    (hp : PCall P g args' Q) (hlen : args'.length = args.length) (hf : ∀ (k : Nat) x y, args[k]? = some x → args'[k]? = some y → Frz s.h (fun _ => True) x y)
    (h : ∀ r, Q r → Flat r ∧ AO P n0 all rest (i + 1) K ⟨putT s.tmps o.dst r, s.h, s.nx + 1⟩) : AO P n0 all (o :: rest) i K s := by
  refine AO_cons fun ext β a w hs hoo Q' next hnext => ?_
  rw [guard_ok hs hg, if_pos rfl]
  refine .inl ?_
  obtain ⟨vs, hrun, hsz, hrel⟩ := target_ok hs ho ht hp.callable
  unfold Oper.wp
  rw [hrun, Oper.upon_enter]
  have hargs : ∀ (k : Nat) y v, args'[k]? = some y → vs[k]? = some v → VRel (cx ext (fun _ => none) [] w) y v := fun k y v hy hv => by
    have hlt : k < args.length := by rw [← hlen]; exact (List.getElem?_eq_some_iff.1 hy).1
    exact Frz.rel hs.heap (fun b hb => .inl hb) (fun id ob b hS hl hb hx => (hs.heap.ext b hx).2 ⟨id, ob, hl, hb⟩) (hf k args[k] y (List.getElem?_eq_getElem hlt) hy) v (hrel k _ v (List.getElem?_eq_getElem hlt) hv)
  refine (hp.run ext w vs (fun b hb => (hs.heap.ext b hb).1) (by rw [hsz, hlen]) hargs).mono ?_
  rintro e w' ⟨v, r, rfl, hq, hfz, hv, hev⟩
  obtain ⟨k1, k2, k3⟩ := hs.heap.evo hev
  obtain ⟨hflat, hao⟩ := h r hq
  have hv' : VRel (cx ext β s.h w') r v := hflat _ _ v hv
  have hpq : ∀ j, Lt s.nx j → Lt (s.nx + 1) j := fun j hj => by simp only [Lt] at *; omega
  have hs3 : SIn n0 ext β ⟨putT s.tmps o.dst r, s.h, s.nx + 1⟩ (a.put o.dst v) w' := (hs.put k1 (fun _ => id) (k3 _) hv' (Fz.nm hfz _) o.dst).mono hpq
  exact hnext β _ _ _ hao hs3 ⟨k2, k3 _⟩

theorem Flat.bool (b : Bool) : Flat (.bool b) := fun _ _ _ h => by cases h; exact .bool b
theorem Flat.int (k : IntKind) (n : Int) : Flat (.int k n) := fun _ _ _ h => by cases h; exact .int k n
theorem Flat.str (s : ByteArray) : Flat (.str s) := fun _ _ _ h => by cases h; exact .str s

theorem Flat.tuple {xs : List AVal} (h : ∀ x, x ∈ xs → Flat x) : Flat (.tuple xs) := fun _ _ _ hv => by
  cases hv with | tuple _ vs l r =>
  exact .tuple xs vs l fun i x v hx hu => h x (List.mem_of_getElem? hx) _ _ v (r i x v hx hu)

theorem Flat.agg {xs : List AVal} (h : ∀ x, x ∈ xs → Flat x) : Flat (.agg xs) := fun _ _ _ hv => by
  cases hv with | agg _ vs l o r =>
  exact .agg xs vs l o fun i x v hx hu => h x (List.mem_of_getElem? hx) _ _ v (r i x v hx hu)

/-- A row of operations that is done in the order of the text. -/
theorem AWP_region {id : Nat} {ops : Array Oper} {Q : Exit → St → Prop} {s : St} (h : AO P n0 ops ops.toList 0 (fun s => Q .normal s) s) : AWP P n0 (.region id ops false) Q s := by
  intro ext β a w hs
  refine wp_region ?_
  rw [List.range_eq_range']
  have := h (by simp) ext β a w hs (Post n0 ext β s.h w Q) fun β' s' a' w' hk hs' hg => ⟨β', s', hk, hs', hg⟩
  simpa using this

end
end Go.AM
