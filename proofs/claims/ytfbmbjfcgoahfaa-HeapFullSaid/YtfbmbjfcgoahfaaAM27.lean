/-
  AM, part 27: a call of a function that works on objects of the caller's, or hands back new ones.
-/
import Derived.Test.YtfbmbjfcgoahfaaAM26
namespace Go.AM
open Go

/-- A function is called over an abstract heap; it leaves another one. -/
structure HCall (P : Program) (g : FuncId) (args : List AVal) (h : Heap) (nx : Nat) (Q : AVal → Heap → Nat → Prop) : Prop where
  callable : Callable P g
  run : ∀ (ext : Nat → Prop) (β : Nat → Option Nat) (w : World) (vs : Array Value), HIn ext β (Lt nx) h w → vs.size = args.length → (∀ x, x ∈ args → Nm (Lt nx) x) →
    (∀ (k : Nat) x v, args[k]? = some x → vs[k]? = some v → VRel (cx ext β h w) x v) →
    Calls P g vs w fun e w' => ∃ v r β' h' nx', e = .returned v ∧ Q r h' nx' ∧ nx ≤ nx' ∧ HIn ext β' (Lt nx') h' w' ∧ Nm (Lt nx') r ∧ VRel (cx ext β' h' w') r v ∧
      Evo (owns β h) w (owns β' h') w' ∧ Step (Lt nx) (cx ext β h w) (cx ext β' h' w')

theorem HCall.mono {P : Program} {g : FuncId} {args : List AVal} {h : Heap} {nx : Nat} {Q Q' : AVal → Heap → Nat → Prop} (c : HCall P g args h nx Q) (hq : ∀ r h n, Q r h n → Q' r h n) : HCall P g args h nx Q' :=
  ⟨c.callable, fun ext β w vs h1 h2 h3 h4 => (c.run ext β w vs h1 h2 h3 h4).mono fun _ _ ⟨v, r, β', h', nx', a, b, c⟩ => ⟨v, r, β', h', nx', a, hq _ _ _ b, c⟩⟩

/-- What the end of such a function has to be: objects may be left behind. -/
def retH (P : Program) (rs : List ResultVar) (Q : AVal → Heap → Nat → Prop) : Exit → St → Prop
  | .normal, s => ∃ xs h2, resAs P s rs = some xs ∧ (∀ id o, lk h2 id = some o → lk s.h id = some o) ∧ Q (packA xs) h2 s.nx
  | .ret, s => ∃ xs h2, resAs P s rs = some xs ∧ (∀ id o, lk h2 id = some o → lk s.h id = some o) ∧ Q (packA xs) h2 s.nx
  | _, _ => False

section
variable {P : Program} {n0 : Nat} {all : Array Oper} {K : St → Prop}

theorem resAs_nm {ext : Nat → Prop} {β : Nat → Option Nat} {s : St} {a : Act} {w : World} (i : SIn n0 ext β s a w) : ∀ {rs : List ResultVar} {xs : List AVal}, resAs P s rs = some xs → ∀ x, x ∈ xs → Nm (Lt s.nx) x
  | [], xs, h, x, hx => by simp [resAs] at h; subst h; cases hx
  | r :: rs, xs, h, x, hx => by
    simp only [resAs] at h
    split at h
    case h_2 => cases h
    rename_i y ys h1 h2
    injection h with h
    subst h
    rcases List.mem_cons.1 hx with rfl | hx
    · cases r with
      | tmp t =>
        simp only [resA] at h1
        injection h1 with h1
        subst h1
        exact i.nm_ev (.tmp t)
      | cell b t =>
        simp only [resA] at h1
        obtain ⟨u, _, _, h3⟩ := aload_ok i.heap (i.ev (.tmp b)) (i.nm_ev (.tmp b)) h1
        exact h3
    · exact resAs_nm i h2 x hx

theorem packA_nm {p : Nat → Prop} {xs : List AVal} (h : ∀ x, x ∈ xs → Nm p x) : Nm p (packA xs) := by
  match xs, h with
  | [], h => exact .tuple _ h
  | [x], h => exact h x (by simp)
  | x :: y :: xs, h => exact .tuple _ h

/-- A function over a heap, by its body. -/
theorem HCall_intro {g : FuncId} {args : List AVal} {h : Heap} {nx : Nat} {Q : AVal → Heap → Nat → Prop} {fn : Func} {c : Code} (hf : P.funcs[g]? = some fn) (hb : fn.body = some c) (hname : (fn.name == "runtime.NumGoroutine") = false)
    (hw : AWP P nx c (retH P fn.results.toList Q) ⟨args ++ List.replicate (fn.ntmps - args.length) .junk, h, nx⟩) : HCall P g args h nx Q := by
  refine ⟨⟨fn, hf, hname, by rw [hb]; rfl⟩, fun ext β w vs hin hl hnm hr => ?_⟩
  have i : SIn nx ext β ⟨args ++ List.replicate (fn.ntmps - args.length) .junk, h, nx⟩ { tmps := vs ++ Array.replicate (fn.ntmps - vs.size) undef, defers := [] } w := by
    refine ⟨hin, by simp [hl], fun k x v hx hv => ?_, fun x hx => ?_, rfl, fun j hj => hj⟩
    · by_cases hk : k < args.length
      · rw [List.getElem?_append_left hk] at hx
        rw [Array.getElem?_append_left (by rw [hl]; exact hk)] at hv
        exact hr k x v hx hv
      · rw [List.getElem?_append_right (by omega), List.getElem?_replicate] at hx
        split at hx
        · injection hx with hx; exact hx ▸ .junk v
        · cases hx
    · rcases List.mem_append.1 hx with hx | hx
      · exact hnm x hx
      · rw [List.mem_replicate] at hx; rw [hx.2]; exact .junk
  refine calls_of_wp hf hb (wp_mono (hw ext β _ w i) ?_)
  rintro e a' w' ⟨β', s', q, i', gs⟩
  have hfin : (∃ xs h2, resAs P s' fn.results.toList = some xs ∧ (∀ id o, lk h2 id = some o → lk s'.h id = some o) ∧ Q (packA xs) h2 s'.nx) →
      a'.defers = [] ∧ ∃ v, (results fn a'.tmps).run P w' = .ok v w' ∧ ∃ v' r β' h' nx', Ending.returned v = .returned v' ∧ Q r h' nx' ∧ nx ≤ nx' ∧ HIn ext β' (Lt nx') h' w' ∧ Nm (Lt nx') r ∧ VRel (cx ext β' h' w') r v' ∧
      Evo (owns β h) w (owns β' h') w' ∧ Step (Lt nx) (cx ext β h w) (cx ext β' h' w') := by
    rintro ⟨xs, h2, h1, h3, h4⟩
    obtain ⟨v, h5, h6⟩ := results_ok i' h1
    have hn := packA_nm (resAs_nm i' h1)
    have hle : nx ≤ s'.nx := by
      rcases Nat.lt_or_ge s'.nx nx with h8 | h8
      · exact absurd (i'.low s'.nx h8) (Nat.lt_irrefl _)
      · exact h8
    have hwk : Weak nx s' ⟨s'.tmps, h2, s'.nx⟩ := ⟨rfl, fun k x hx => .inr hx, h3, i'.nm, fun id ob ho => i'.heap.nm id ob (h3 id ob ho), hle⟩
    obtain ⟨i2, g2⟩ := i'.weak hwk
    have hst : Step (Lt s'.nx) (cx ext β' s'.h w') (cx ext β' h2 w') := by
      have hw2 : Weak s'.nx s' ⟨s'.tmps, h2, s'.nx⟩ := ⟨rfl, fun k x hx => .inr hx, h3, i'.nm, fun id ob ho => i'.heap.nm id ob (h3 id ob ho), Nat.le_refl _⟩
      have i3 : SIn s'.nx ext β' s' a' w' := ⟨i'.heap, i'.size, i'.rel, i'.nm, i'.defers, fun j hj => hj⟩
      exact (i3.weak hw2).2.step
    have gg := gs.trans g2
    exact ⟨i'.defers, v, h5, v, packA xs, β', h2, s'.nx, rfl, h4, hle, i2.heap, hn, h6.step hst hn, gg.evo, gg.step⟩
  cases e with
  | normal => exact hfin q
  | ret => exact hfin q
  | exit id => exact q.elim
  | goto l => exact q.elim
  | panic c => exact q.elim
  | outgrown => exact q.elim

/-- Such a call in a row of operations. -/
theorem AO_hcall {o : Oper} {rest : List Oper} {i : Nat} {s : St} {c : Call} {g : FuncId} {args : List AVal} {Q : AVal → Heap → Nat → Prop} (hg : guardA all s.tmps o = some true) (ho : o.op = .call c) (ht : target s.tmps c = some (g, args))
    (hp : HCall P g args s.h s.nx Q) (h : ∀ r h' nx', Q r h' nx' → AO P n0 all rest (i + 1) K ⟨putT s.tmps o.dst r, h', nx'⟩) : AO P n0 all (o :: rest) i K s := by
  refine AO_cons fun ext β a w hs hoo Q' next hnext => ?_
  rw [guard_ok hs hg, if_pos rfl]
  refine .inl ?_
  obtain ⟨vs, hrun, hsz, hrel⟩ := target_ok hs ho ht hp.callable
  unfold Oper.wp
  rw [hrun, Oper.upon_enter]
  have hnm : ∀ x, x ∈ args → Nm (Lt s.nx) x := by
    intro x hx
    unfold target at ht
    split at ht
    case h_2 => cases ht
    rename_i f hf
    split at ht
    case h_2 => cases ht
    rename_i g' first captured hev
    injection ht with ht
    injection ht with e1 e2
    subst e1 e2
    have hn := hs.nm_ev f
    rw [hev] at hn
    cases hn with | func _ _ _ hn1 hn2 =>
    rcases List.mem_append.1 hx with hx | hx
    · rcases List.mem_append.1 hx with hx | hx
      · exact hn1 x hx
      · exact (evs_rel hs c.args).2.2 x hx
    · exact hn2 x hx
  refine (hp.run ext β w vs hs.heap hsz hnm hrel).mono ?_
  rintro e w' ⟨v, r, β', h', nx', rfl, hq, hle, hin, hn, hv, hev, hst⟩
  have hs3 : SIn n0 ext β' ⟨putT s.tmps o.dst r, h', nx'⟩ (a.put o.dst v) w' := hs.put hin (fun j hj => Nat.lt_of_lt_of_le hj hle) hst hv hn o.dst
  have hlow : n0 ≤ s.nx := by
    rcases Nat.lt_or_ge s.nx n0 with h8 | h8
    · exact absurd (hs.low s.nx h8) (Nat.lt_irrefl _)
    · exact h8
  exact hnext β' _ _ _ (h r h' nx' hq) hs3 ⟨hev, hst.weaken fun j hj => Nat.lt_of_lt_of_le hj hlow⟩

theorem AO_hcallE {o : Oper} {rest : List Oper} {i nx nx' : Nat} {tm tm' : List AVal} {hp hp' : Heap} {c : Call} {g : FuncId} {args : List AVal} {r : AVal} (hg : guardA all tm o = some true) (ho : o.op = .call c) (ht : target tm c = some (g, args))
    (hc : HCall P g args hp nx fun a b d => a = r ∧ b = hp' ∧ d = nx') (htm : putT tm o.dst r = tm') (h : AO P n0 all rest (i + 1) K ⟨tm', hp', nx'⟩) : AO P n0 all (o :: rest) i K ⟨tm, hp, nx⟩ := by
  subst htm
  refine AO_hcall hg ho ht hc ?_
  rintro a b d ⟨rfl, rfl, rfl⟩
  exact h

/-- A call whose arguments stand in objects; numbers, texts, truths come back. -/
theorem AO_callFE {o : Oper} {rest : List Oper} {i nx nx' : Nat} {tm tm' : List AVal} {hp : Heap} {c : Call} {g : FuncId} {args args' : List AVal} {r : AVal} (hg : guardA all tm o = some true) (ho : o.op = .call c) (ht : target tm c = some (g, args))
    (hc : PCall P g args' (· = r)) (hlen : args'.length = args.length) (hf : ∀ (k : Nat) x y, args[k]? = some x → args'[k]? = some y → Frz hp (fun _ => True) x y) (hfl : Flat r)
    (htm : putT tm o.dst r = tm') (hn : nx + 1 = nx') (h : AO P n0 all rest (i + 1) K ⟨tm', hp, nx'⟩) : AO P n0 all (o :: rest) i K ⟨tm, hp, nx⟩ := by
  subst htm
  subst hn
  refine AO_callF hg ho ht hc hlen hf ?_
  rintro r' rfl
  exact ⟨hfl, h⟩

end
end Go.AM
