/-
  AM, part 43: functions that hand back one new object; a slice that is held against nil.
-/
import Derived.Test.YtfbmbjfcgoahfaaAM42
set_option linter.unusedVariables false
set_option linter.unusedSimpArgs false
namespace Go.AM
open Go

/-- Values that name one object. -/
inductive Nat1 : (Nat → AVal) → Prop
  | const (y : AVal) (h : Fz y) : Nat1 (fun _ => y)
  | ref (sz base len : Nat) (ex : Bool) (c : Nat) : Nat1 (fun j => .ref j sz base len ex c)
  | agg (cs : List (Nat → AVal)) (h : ∀ c, c ∈ cs → Nat1 c) : Nat1 (fun j => .agg (cs.map fun c => c j))
  | tuple (cs : List (Nat → AVal)) (h : ∀ c, c ∈ cs → Nat1 c) : Nat1 (fun j => .tuple (cs.map fun c => c j))

theorem nat1_nm {p : Nat → Prop} {x : Nat → AVal} (h : Nat1 x) (j : Nat) (hj : p j) : Nm p (x j) := by
  induction h with
  | const y h => exact Fz.nm h p
  | ref sz base len ex c => exact .ref _ _ _ _ _ _ hj
  | agg cs h ih =>
    refine .agg _ fun y hy => ?_
    obtain ⟨c, h1, rfl⟩ := List.mem_map.1 hy
    exact ih c h1
  | tuple cs h ih =>
    refine .tuple _ fun y hy => ?_
    obtain ⟨c, h1, rfl⟩ := List.mem_map.1 hy
    exact ih c h1

theorem nat1_rel {c d : Cx} {id fresh : Nat} {ob : Ob} (st : Step (fun _ => False) c d) (hb : d.β fresh = c.β id) (hl : lk c.h id = some ob) (hl' : lk d.h fresh = some ob) {x : Nat → AVal} (h : Nat1 x) : ∀ v, VRel c (x id) v → VRel d (x fresh) v := by
  induction h with
  | const y h => exact fun v hv => hv.step st h
  | ref sz base len ex cc =>
    intro v hv
    cases hv with | ref _ _ _ _ _ _ a cap h1 h2 h3 h4 =>
    refine .ref fresh sz base len ex cc a cap h1 h2 h3 fun esz rows hr => ?_
    have hr' : lk c.h id = some (.arr esz rows) := by rw [hl, ← hl', hr]
    obtain ⟨h5, h6⟩ := h4 esz rows hr'
    refine ⟨h5, fun e => ?_⟩
    obtain ⟨h7, h8⟩ := h6 e
    refine ⟨h7, ?_⟩
    rcases h8 with h8 | ⟨b, h9, h10, e', n, h11, h12⟩
    · exact .inl h8
    · exact .inr ⟨b, hb.trans h9, h10, e', n, st.shape _ _ h11, h12⟩
  | agg cs h ih =>
    intro v hv
    cases hv with | agg _ vs h1 h2 h3 =>
    refine .agg _ vs (by simpa using h1) h2 fun i y u hy hu => ?_
    rw [List.getElem?_map] at hy
    obtain ⟨f, hf, rfl⟩ := Option.map_eq_some_iff.1 hy
    exact ih f (List.mem_of_getElem? hf) u (h3 i (f id) u (by rw [List.getElem?_map, hf]; rfl) hu)
  | tuple cs h ih =>
    intro v hv
    cases hv with | tuple _ vs h1 h3 =>
    refine .tuple _ vs (by simpa using h1) fun i y u hy hu => ?_
    rw [List.getElem?_map] at hy
    obtain ⟨f, hf, rfl⟩ := Option.map_eq_some_iff.1 hy
    exact ih f (List.mem_of_getElem? hf) u (h3 i (f id) u (by rw [List.getElem?_map, hf]; rfl) hu)

/-- What the end of such a function has to be. -/
def retN (P : Program) (rs : List ResultVar) (x : Nat → AVal) (ob : Ob) : Exit → St → Prop
  | .normal, s => ∃ xs id, resAs P s rs = some xs ∧ packA xs = x id ∧ lk s.h id = some ob
  | .ret, s => ∃ xs id, resAs P s rs = some xs ∧ packA xs = x id ∧ lk s.h id = some ob
  | _, _ => False

section
variable {fl : Bool} {P : Program}

theorem PNew_intro {g : FuncId} {args : List AVal} {x : Nat → AVal} {esz : Nat} {rows : List (List AVal)} {fn : Func} {c : Code} (hf : P.funcs[g]? = some fn) (hb : fn.body = some c) (hname : (fn.name == "runtime.NumGoroutine") = false)
    (hargs : ∀ x, x ∈ args → Fz x) (hx : Nat1 x) (hob : ∀ r, r ∈ rows → ∀ y, y ∈ r → Fz y) (hw : AWP P 0 c (retN P fn.results.toList x (.arr esz rows)) ⟨args ++ List.replicate (fn.ntmps - args.length) .junk, [], 0⟩) : PNew P g args x (.arr esz rows) := by
  refine ⟨⟨fn, hf, hname, by rw [hb]; rfl⟩, fun ext β p h w vs fresh hin hpf hl hr => ?_⟩
  have hno : ∀ b, ¬ owns (fun _ => none) [] b := fun b ⟨_, _, h1, _⟩ => by simp [lk] at h1
  have hext : ∀ b, (ext b ∨ owns β h b) → b < w.heap.size := fun b hb => hb.elim (fun h1 => (hin.ext b h1).1) fun h1 => hin.lt h1
  have i : SIn 0 (fun b => ext b ∨ owns β h b) (fun _ => none) ⟨args ++ List.replicate (fn.ntmps - args.length) .junk, [], 0⟩ { tmps := vs ++ Array.replicate (fn.ntmps - vs.size) undef, defers := [] } w := by
    refine ⟨⟨fun id o ho => by simp [lk] at ho, fun id o ho => by simp [lk] at ho, fun id id' o o' b h1 => by simp [lk] at h1, fun b hb => ⟨hext b hb, hno b⟩⟩, by simp [hl], fun k y v hy hv => ?_, fun y hy => ?_, rfl, fun j hj => hj⟩
    · by_cases hk : k < args.length
      · rw [List.getElem?_append_left hk] at hy
        rw [Array.getElem?_append_left (by rw [hl]; exact hk)] at hv
        exact hr k y v hy hv
      · rw [List.getElem?_append_right (by omega), List.getElem?_replicate] at hy
        split at hy
        · injection hy with hy; exact hy ▸ .junk v
        · cases hy
    · rcases List.mem_append.1 hy with hy | hy
      · exact Fz.nm (hargs y hy) _
      · rw [List.mem_replicate] at hy; rw [hy.2]; exact .junk
  refine calls_of_wp hf hb (wp_mono (hw (fun b => ext b ∨ owns β h b) (fun _ => none) _ w i) ?_)
  rintro e a' w' ⟨β1, s', q, i', gs⟩
  have hfin : (∃ xs id, resAs P s' fn.results.toList = some xs ∧ packA xs = x id ∧ lk s'.h id = some (.arr esz rows)) →
      a'.defers = [] ∧ ∃ v, (results fn a'.tmps).run P w' = .ok v w' ∧ ∃ v' β', Ending.returned v = .returned v' ∧ HIn ext β' (fun j => p j ∨ j = fresh) ((fresh, .arr esz rows) :: h) w' ∧ VRel (cx ext β' ((fresh, .arr esz rows) :: h) w') (x fresh) v' ∧
        Nm (fun j => p j ∨ j = fresh) (x fresh) ∧ Evo (owns β h) w (owns β' ((fresh, .arr esz rows) :: h)) w' ∧ Step p (cx ext β h w) (cx ext β' ((fresh, .arr esz rows) :: h) w') := by
    rintro ⟨xs, id, h1, h2, h3⟩
    obtain ⟨v, h5, h6⟩ := results_ok i' h1
    rw [h2] at h6
    have hev : Evo (fun _ => False) w (fun _ => False) w' := ⟨gs.evo.size, fun b hb _ => gs.evo.keep b hb (hno b), fun _ _ h => h, gs.evo.shape, gs.evo.rest⟩
    obtain ⟨k1, k2, k3⟩ := hin.evo hev
    have hnew : ∀ b, β1 id = some b → ¬ b < w.heap.size := fun b hb hlt => hno b (gs.evo.fresh b hlt ⟨id, _, h3, hb⟩)
    have hold : ∀ j o, lk h j = some o → ¬ j = fresh := fun j o hj e => hpf (e ▸ (hin.nm j o hj).1)
    obtain ⟨β', hβ'⟩ : ∃ β' : Nat → Option Nat, β' = fun j => if j = fresh then β1 id else β j := ⟨_, rfl⟩
    have hβf : β' fresh = β1 id := by simp [hβ']
    have hβo : ∀ j, ¬ j = fresh → β' j = β j := fun j hj => by simp [hβ', hj]
    have hown : ∀ b, owns β' ((fresh, .arr esz rows) :: h) b → β1 id = some b ∨ owns β h b := by
      rintro b ⟨j, o, e1, e2⟩
      rw [lk_cons] at e1
      by_cases hj : j = fresh
      · subst hj
        rw [hβf] at e2
        exact .inl e2
      · rw [if_neg hj] at e1
        rw [hβo j hj] at e2
        exact .inr ⟨j, o, e1, e2⟩
    have stA : Step p (cx ext β h w) (cx ext β' ((fresh, .arr esz rows) :: h) w') := by
      refine ⟨fun b o u hn hc => ?_, gs.evo.shape, fun j hj esz1 rows1 hr1 => ?_, fun j hj es hr1 => ?_⟩
      · obtain ⟨h7, h8⟩ := (k3 p).cell b o u hn hc
        refine ⟨fun h9 => ?_, h8⟩
        rcases h9 with h9 | h9
        · exact hn (.inl h9)
        · rcases hown b h9 with h10 | h10
          · exact hnew b h10 (cell_lt hc)
          · exact hn (.inr h10)
      · have e : ¬ j = fresh := fun e => hpf (e ▸ hj)
        have hr2 : lk ((fresh, Ob.arr esz rows) :: h) j = some (.arr esz1 rows1) := hr1
        rw [lk_cons, if_neg e] at hr2
        exact ⟨rows1, hr2, Nat.le_refl _, fun _ => hβo j e⟩
      · have e : ¬ j = fresh := fun e => hpf (e ▸ hj)
        have hr2 : lk ((fresh, Ob.arr esz rows) :: h) j = some (.mp es) := hr1
        rw [lk_cons, if_neg e] at hr2
        exact ⟨es, hr2, hβo j e⟩
    have stB : Step (fun _ => False) (cx (fun b => ext b ∨ owns β h b) β1 s'.h w') (cx ext β' ((fresh, .arr esz rows) :: h) w') := by
      refine ⟨fun b o u hn hc => ⟨fun h9 => hn ?_, hc⟩, fun _ _ h => h, fun _ h => h.elim, fun _ h => h.elim⟩
      rcases h9 with h9 | h9
      · exact .inl (.inl h9)
      · rcases hown b h9 with h10 | h10
        · exact .inr ⟨id, _, h3, h10⟩
        · exact .inl (.inr h10)
    have hlk : lk ((fresh, Ob.arr esz rows) :: h) fresh = some (.arr esz rows) := by rw [lk_cons, if_pos rfl]
    refine ⟨i'.defers, v, h5, v, β', rfl, ⟨fun j o hj => ?_, fun j o hj => ?_, fun j j' o o' b hj hj' e1 e2 => ?_, fun b hb => ⟨Nat.lt_of_lt_of_le (hin.ext b hb).1 gs.evo.size, fun h9 => ?_⟩⟩, nat1_rel stB hβf h3 hlk hx v h6, nat1_nm hx fresh (.inr rfl), ?_, stA⟩
    · rw [lk_cons] at hj
      by_cases e : j = fresh
      · subst e
        rw [if_pos rfl] at hj
        injection hj with hj
        subst hj
        obtain ⟨h7, h8⟩ := i'.heap.ob id _ h3
        refine ⟨h7, ?_⟩
        have h8' : match β1 id with | none => rows = [] | some b => _ := h8
        show match β' j with | none => rows = [] | some b => _
        rw [hβf]
        cases hb : β1 id with
        | none => simpa only [hb] using h8'
        | some b =>
          simp only [hb] at h8' ⊢
          obtain ⟨cs, e', h9, h10, h11⟩ := h8'
          refine ⟨cs, e', h9, h10, fun i r k y hr hy => ?_⟩
          obtain ⟨u, h12, h13, h14⟩ := h11 i r k y hr hy
          exact ⟨u, h12, h13, h14.step stB (hob r (List.mem_of_getElem? hr) y (List.mem_of_getElem? hy))⟩
      · rw [if_neg e] at hj
        exact ObIn.step stA (hβo j e) (fun b hb => gs.evo.keep b (hin.lt ⟨j, o, hj, hb⟩) (hno b)) (hin.nm j o hj).2 (hin.ob j o hj)
    · rw [lk_cons] at hj
      by_cases e : j = fresh
      · rw [if_pos e] at hj
        injection hj with hj
        subst hj
        exact ⟨.inr e, fun r hr y hy => Fz.nm (hob r hr y hy) _⟩
      · rw [if_neg e] at hj
        exact ⟨.inl (hin.nm j o hj).1, Ob.nm_mono (fun _ => .inl) (hin.nm j o hj).2⟩
    · rw [lk_cons] at hj hj'
      by_cases e : j = fresh
      · by_cases e' : j' = fresh
        · rw [e, e']
        · exfalso
          rw [if_neg e'] at hj'
          rw [e, hβf] at e1
          rw [hβo j' e'] at e2
          exact hnew b e1 (hin.lt ⟨j', o', hj', e2⟩)
      · rw [if_neg e] at hj
        rw [hβo j e] at e1
        by_cases e' : j' = fresh
        · exfalso
          rw [e', hβf] at e2
          exact hnew b e2 (hin.lt ⟨j, o, hj, e1⟩)
        · rw [if_neg e'] at hj'
          rw [hβo j' e'] at e2
          exact hin.inj j j' o o' b hj hj' e1 e2
    · rcases hown b h9 with h10 | h10
      · exact hnew b h10 (hin.ext b hb).1
      · exact (hin.ext b hb).2 h10
    · refine ⟨gs.evo.size, fun b hb _ => gs.evo.keep b hb (hno b), fun b hb h9 => ?_, gs.evo.shape, gs.evo.rest⟩
      rcases hown b h9 with h10 | h10
      · exact absurd hb (hnew b h10)
      · exact h10
  cases e with
  | normal => exact hfin q
  | ret => exact hfin q
  | exit id => exact q.elim
  | goto l => exact q.elim
  | panic c => exact q.elim
  | outgrown => exact q.elim

/-- As retN; or what is handed back is a list of nothing at all, in some slot. -/
def retU (P : Program) (rs : List ResultVar) (x : Nat → AVal) (ob : Ob) (e : Exit) (s : St) : Prop :=
  retN P rs x ob e s ∨ ∃ t esz, s.tmps[t]? = some (.sl [] (some 0)) ∧ retN P rs x ob e ⟨s.tmps.set t (.ref s.nx 0 0 0 false 0), (s.nx, .arr esz []) :: s.h, s.nx + 1⟩

theorem SIn.newL {n0 : Nat} {ext : Nat → Prop} {β : Nat → Option Nat} {tm tm' : List AVal} {hp : Heap} {nx : Nat} {a : Act} {w : World} (i : SIn n0 ext β ⟨tm, hp, nx⟩ a w) (esz : Nat) (hf : NewL nx tm tm') :
    SIn n0 ext (fun j => if j = nx then none else β j) ⟨tm', (nx, .arr esz []) :: hp, nx + 1⟩ a w ∧ Goes n0 ext β hp w (fun j => if j = nx then none else β j) ((nx, .arr esz []) :: hp) w := by
  obtain ⟨hl, hg⟩ := hf.get
  obtain ⟨h1, h2, h3⟩ := i.heap.unborn (fresh := nx) (fun h => Nat.lt_irrefl _ h) esz
  have hlow : n0 ≤ nx := by
    rcases Nat.lt_or_ge nx n0 with h8 | h8
    · exact absurd (i.low nx h8) (Nat.lt_irrefl _)
    · exact h8
  have hq : ∀ j, (Lt nx j ∨ j = nx) → Lt (nx + 1) j := fun j hj => by simp only [Lt] at *; omega
  refine ⟨⟨HIn.mono hq h1, by rw [i.size]; exact hl.symm, fun k y v hy hv => ?_, fun y hy => ?_, i.defers, fun j hj => hq j (.inl (i.low j hj))⟩, ⟨h2, h3.weaken fun j hj => Nat.lt_of_lt_of_le hj hlow⟩⟩
  · have hk : k < tm.length := by rw [← hl]; exact (List.getElem?_eq_some_iff.1 hy).1
    rcases hg k tm[k] y (List.getElem?_eq_getElem hk) hy with rfl | rfl | ⟨e1, rfl⟩
    · exact (i.rel k _ v (List.getElem?_eq_getElem hk) hv).step h3 (i.nm _ (List.getElem_mem hk))
    · exact .junk v
    · have hv1 := i.rel k _ v (List.getElem?_eq_getElem hk) hv
      rw [e1] at hv1
      cases hv1 with | sl _ _ a1 cap esz1 blk off vals hcap hlim _ _ _ _ =>
      have hc := hlim 0 rfl
      subst hc
      refine .ref nx 0 0 0 false 0 a1 0 (Nat.le_refl _) (Nat.le_refl _) (fun h => by cases h) fun esz2 rows2 hr => ?_
      exact ⟨Nat.zero_le _, fun _ => ⟨Nat.le_refl _, .inl rfl⟩⟩
  · obtain ⟨k, hk⟩ := List.getElem?_of_mem hy
    have hk' : k < tm.length := by rw [← hl]; exact (List.getElem?_eq_some_iff.1 hk).1
    rcases hg k tm[k] y (List.getElem?_eq_getElem hk') hk with rfl | rfl | ⟨e1, rfl⟩
    · exact Nm.mono (fun j hj => hq j (.inl hj)) (i.nm _ (List.getElem_mem hk'))
    · exact .junk
    · exact .ref _ _ _ _ _ _ (Nat.lt_succ_self nx)

/-- A function that hands back a new object, by its body. -/
theorem PNew_body {g : FuncId} {args : List AVal} {x : Nat → AVal} {esz : Nat} {rows : List (List AVal)} {fn : Func} {c : Code} (hf : P.funcs[g]? = some fn) (hb : fn.body = some c) (hname : (fn.name == "runtime.NumGoroutine") = false)
    (hargs : ∀ x, x ∈ args → Fz x) (hx : Nat1 x) (hob : ∀ r, r ∈ rows → ∀ y, y ∈ r → Fz y) (hw : AWP P 0 c (retU P fn.results.toList x (.arr esz rows)) ⟨args ++ List.replicate (fn.ntmps - args.length) .junk, [], 0⟩) : PNew P g args x (.arr esz rows) := by
  refine PNew_intro hf hb hname hargs hx hob fun ext β a w i => ?_
  refine wp_mono (hw ext β a w i) ?_
  rintro e a2 w2 ⟨β2, s2, q, i2, g2⟩
  rcases q with q | ⟨t, esz', ht, q⟩
  · exact ⟨β2, s2, q, i2, g2⟩
  · obtain ⟨i3, g3⟩ := SIn.newL (tm := s2.tmps) (hp := s2.h) (nx := s2.nx) i2 esz' (NewL.at s2.tmps t ht)
    exact ⟨_, _, q, i3, g2.trans g3⟩

theorem retU_of {rs : List ResultVar} {x : Nat → AVal} {ob : Ob} {s : St} {xs : List AVal} {id : Nat} (h : resAs P s rs = some xs) (h2 : packA xs = x id) (h3 : lk s.h id = some ob) : retU P rs x ob .ret s := .inl ⟨xs, id, h, h2, h3⟩
theorem retUN_of {rs : List ResultVar} {x : Nat → AVal} {ob : Ob} {s : St} {xs : List AVal} {id : Nat} (h : resAs P s rs = some xs) (h2 : packA xs = x id) (h3 : lk s.h id = some ob) : retU P rs x ob .normal s := .inl ⟨xs, id, h, h2, h3⟩
theorem retU_nil {rs : List ResultVar} {x : Nat → AVal} {ob : Ob} {tm tm' : List AVal} {hp : Heap} {nx : Nat} {xs : List AVal} {id : Nat} (t esz : Nat) (ht : tm[t]? = some (.sl [] (some 0))) (e : tm.set t (.ref nx 0 0 0 false 0) = tm')
    (h : resAs P ⟨tm', (nx, .arr esz []) :: hp, nx + 1⟩ rs = some xs) (h2 : packA xs = x id) (h3 : lk ((nx, .arr esz []) :: hp) id = some ob) : retU P rs x ob .ret ⟨tm, hp, nx⟩ := by
  subst e
  exact .inr ⟨t, esz, ht, xs, id, h, h2, h3⟩

variable {n0 : Nat} {all : Array Oper} {K : St → Prop}

/-- A call that hands back a new object. -/
theorem AO_newE {o : Oper} {rest : List Oper} {i nx nx' : Nat} {tm tm' : List AVal} {hp : Heap} {c : Call} {g : FuncId} {args args' : List AVal} {x : Nat → AVal} {ob : Ob} {y : AVal} (hg : guardA all tm o = some true) (ho : o.op = .call c) (ht : target tm c = some (g, args))
    (hc : PNew P g args' x ob) (hf : FrzL [] [] args args') (hy : x nx = y) (htm : putT tm o.dst y = tm') (hn : nx + 1 = nx') (h : AO P n0 all rest (i + 1) K ⟨tm', (nx, ob) :: hp, nx'⟩) : AO P n0 all (o :: rest) i K ⟨tm, hp, nx⟩ := by
  subst hy
  subst htm
  subst hn
  refine AO_cons fun ext β a w hs hoo Q' next hnext => ?_
  rw [guard_ok hs hg, if_pos rfl]
  refine .inl ?_
  refine new_wp hs (fun hp => Nat.lt_irrefl _ hp) ho ht hc hf.get.1 (fun k x y hx hy => Frz.widen (fun _ h => h.elim) (Frz.none ((hf.get.2 k x y hx hy).nowhere) hp)) fun v w' β' q1 q2 q3 q4 q5 => ?_
  have hpq : ∀ j, Lt nx j ∨ j = nx → Lt (nx + 1) j := fun j hj => by rcases hj with hj | hj <;> simp only [Lt] at * <;> omega
  have hlow : n0 ≤ nx := by
    rcases Nat.lt_or_ge nx n0 with h8 | h8
    · exact absurd (hs.low nx h8) (Nat.lt_irrefl _)
    · exact h8
  exact hnext β' _ _ _ h ((hs.put q1 (fun _ => .inl) q5 q2 q3 o.dst).mono hpq) ⟨q4, q5.weaken fun j hj => Nat.lt_of_lt_of_le hj hlow⟩

theorem D_newE {nx : Nat} {o : Oper} {rest : List Oper} {i i' id : Nat} {tm tm' : List AVal} {hp : Heap} {tc tc' : List (Bool × List Nat)} {c : Call} {g : FuncId} {args args' : List AVal} {x : Nat → AVal} {ob : Ob} {y : AVal} (hg : guardA all tm o = some true) (ho : o.op = .call c) (ht : target tm c = some (g, args))
    (hc : PNew P g args' x ob) (hf : FrzL [] [] args args') (hid : nx + i = id) (hy : x id = y) (htm : putT tm o.dst y = tm') (hn : i + 1 = i') (htc : tc ++ [(false, [])] = tc') (h : DW fl P all nx K rest i' tm' ((id, ob) :: hp) tc') : DW fl P all nx K (o :: rest) i tm hp tc := by
  subst hid
  subst hy
  subst htm
  subst hn
  subst htc
  exact D_fresh c g args args' x ob hg ho ht hc hf.get.1 (fun k x y hx hy => Frz.widen (fun _ h => h.elim) (Frz.none ((hf.get.2 k x y hx hy).nowhere) hp)) h

theorem run_eq_slice_nil {w : World} (d : Nat) {t e : TypeId} (h : P.underlying t = some (.slice e)) (a : Option Addr) (n c : Nat) :
    (Op.equalIn (d + 1) t (.slice a n c) (.slice none 0 0)).run P w = .ok a.isNone w := by
  cases a <;> simp [Op.equalIn, run_underlying h]

/-- A slice is held against nil: one with something in it is none; of one with nothing in it, either is possible. -/
theorem AO_nilE {o : Oper} {rest : List Oper} {i nx nx' : Nat} {tm : List AVal} {hp : Heap} {t yt : TypeId} {x : Operand} {rows : List (List AVal)} {lim : Option Nat} {e n m : Nat} {z : AVal} (hg : guardA all tm o = some true) (ho : o.op = .binOp .eql t x (.const (.slice none 0 0)) yt)
    (ht : tab P t = some ⟨.slice e, n, m, z⟩) (hx : ev tm x = .sl rows lim) (hn : nx + 1 = nx') (h : ∀ b, (rows.length = 0 ∨ b = false) → AO P n0 all rest (i + 1) K ⟨putT tm o.dst (.bool b), hp, nx'⟩) : AO P n0 all (o :: rest) i K ⟨tm, hp, nx⟩ := by
  subst hn
  refine AO_cons fun ext β a w hs hoo Q' next hnext => ?_
  rw [guard_ok hs hg, if_pos rfl]
  refine .inl ?_
  have hv := hs.ev x
  rw [show ev _ x = .sl rows lim from hx] at hv
  generalize hz : a.eval x = v at hv
  cases hv with | sl _ _ ad cap esz blk off vals h1 h2 h3 h4 h5 h6 =>
  have hrun : (execOp a.eval o).run P w = .ok (.value (.bool ad.isNone)) w := by
    have e1 : execOp a.eval o = (do pure (.value (← (do eqGuard .eql t x (.const (.slice none 0 0)) (a.eval x) (a.eval (.const (.slice none 0 0))); binOp .eql t (a.eval x) (a.eval (.const (.slice none 0 0))) : Sem Value))) : Sem Next) := by
      obtain ⟨dst, op, type, pos, after, guard⟩ := o
      simp only at ho
      subst ho
      rfl
    have e2 : a.eval (.const (.slice none 0 0)) = .slice none 0 0 := rfl
    have e3 : binOp .eql t (.slice ad rows.length cap) (.slice none 0 0) = (do pure (.bool (← Op.equal t (.slice ad rows.length cap) (.slice none 0 0)))) := rfl
    have e4 : (Op.equal t (.slice ad rows.length cap) (.slice none 0 0)).run P w = .ok ad.isNone w := run_eq_slice_nil 9999 (und_slice ht) ad _ _
    rw [e1, hz, e2]
    simp [eqGuard, e3, e4]
  unfold Oper.wp
  rw [hrun]
  have hpq : ∀ j, Lt nx j → Lt (nx + 1) j := fun j hj => by simp only [Lt] at *; omega
  have hs' := (hs.put hs.heap (fun _ => id) (Step.refl _ _) (.bool ad.isNone) (.bool ad.isNone) o.dst).mono hpq
  refine hnext β _ _ _ (h ad.isNone ?_) hs' (Goes.refl n0 ext β hp w)
  rcases Nat.eq_zero_or_pos rows.length with h0 | h0
  · exact .inl h0
  · refine .inr ?_
    rw [h4 (fun e => by rw [e] at h0; exact Nat.lt_irrefl 0 h0)]
    rfl

end
end Go.AM
