/-
  AM, part 11: one operation; a row of operations; a call of a function that only reads its arguments.
-/
import Derived.Test.YtfbmbjfcgoahfaaAM10m
namespace Go.AM
open Go

def evs (tmps : List AVal) (xs : Array Operand) : List AVal := xs.toList.map (ev tmps)

def evp (tmps : List AVal) (xs : Array (Nat × Operand)) : List (Nat × AVal) := xs.toList.map fun x => (x.1, ev tmps x.2)

def apick (t : Bool) (a b : AVal) : AVal :=
  match a, b with
  | .bool x, .bool y => .bool (if t then x else y)
  | a, b => if t then a else b

def abuiltin (P : Program) (h : Heap) (fresh : Nat) (b : Builtin) (ts : List TypeId) (xs : List AVal) : Option (AVal × Heap) :=
  match b, ts, xs with
  | .len, [t], [x] => (alen P t x).map fun y => (y, h)
  | .append, [st, xt], [s, x] => aappend P h fresh st xt s x
  | .max, _, [x, y] => (aminmax true x y).map fun y => (y, h)
  | .min, _, [x, y] => (aminmax false x y).map fun y => (y, h)
  | .delete, [t, _], [m, k] => adelete P h t m k
  | _, _, _ => none

def anil : AVal → Bool
  | .ptr _ _ _ _ => true
  | .fp _ => true
  | .func (.func _) _ _ => true
  | _ => false

/-- One operation that calls no function. -/
def astep (P : Program) (tmps : List AVal) (h : Heap) (fresh : Nat) (o : Oper) : Option (AVal × Heap) :=
  match o.op with
  | .move x => some (ev tmps x, h)
  | .assign x => some (ev tmps x, h)
  | .pick c a b => match ev tmps c with | .bool t => some (apick t (ev tmps a) (ev tmps b), h) | _ => none
  | .alloc elem => match tab P elem with | some ti => abox h fresh ti.zero | none => none
  | .box _ x => abox h fresh (ev tmps x)
  | .build t parts => (abuild P t (evp tmps parts)).map fun y => (y, h)
  | .buildSlice t len parts => abuildSlice P h fresh t len (evp tmps parts)
  | .load t a => (aload P h t (ev tmps a)).map fun y => (y, h)
  | .store t a x => (astore P h t (ev tmps a) (ev tmps x)).map fun h' => (.junk, h')
  | .nilCheck x => if anil (ev tmps x) then some (ev tmps x, h) else none
  | .binOp op t x y _ => (abin P op t (ev tmps x) (ev tmps y)).map fun y => (y, h)
  | .unOp op _ x => (aunary op (ev tmps x)).map fun y => (y, h)
  | .convert src dst x => match tab P src with | some _ => (aconvert P dst (ev tmps x)).map fun y => (y, h) | none => none
  | .makeInterface t x => (aiface P t (ev tmps x)).map fun y => (y, h)
  | .makeFunc fn first captured => some (.func fn (evs tmps first) (evs tmps captured), h)
  | .makeSlice t l c => amakeSlice P h fresh t (ev tmps l) (ev tmps c)
  | .slice t x lo hi mx => (aslice P h t (ev tmps x) (lo.map (ev tmps)) (hi.map (ev tmps)) (mx.map (ev tmps))).map fun y => (y, h)
  | .fieldAddr s x f => (afieldAddr P s (ev tmps x) f).map fun y => (y, h)
  | .field s x f => (afield P s (ev tmps x) f).map fun y => (y, h)
  | .indexAddr t x i => (aindexAddr P h t (ev tmps x) (ev tmps i)).map fun y => (y, h)
  | .index t x i => (aindex P t (ev tmps x) (ev tmps i)).map fun y => (y, h)
  | .extract x i => (aextract (ev tmps x) i).map fun y => (y, h)
  | .makeMap _ r => match r with | none => some (.mapv fresh, (fresh, .mp ⟨[], 0⟩) :: h) | some _ => none
  | .lookup t x k ok => (alookup P h t (ev tmps x) (ev tmps k) ok).map fun y => (y, h)
  | .mapUpdate t m k x => (amapUpdate P h t (ev tmps m) (ev tmps k) (ev tmps x)).map fun h' => (.junk, h')
  | .insert t m k x => (amapUpdate P h t (ev tmps m) (ev tmps k) (ev tmps x)).map fun h' => (.junk, h')
  | .mapEntry t m k => amapEntry P h t (ev tmps m) (ev tmps k)
  | .entryStore _ m k x => (aentryStore h (ev tmps m) (ev tmps k) (ev tmps x)).map fun h' => (.junk, h')
  | .call c => match c.callee with | .builtin b => abuiltin P h fresh b c.argTypes.toList (evs tmps c.args) | _ => none
  | _ => none

section
variable {P : Program} {n0 : Nat} {ext : Nat → Prop} {β : Nat → Option Nat} {p : Nat → Prop} {tmps : List AVal} {h : Heap} {a : Act} {w : World} {fresh : Nat}

theorem evs_rel (i : SInP n0 ext β p tmps h a w) (xs : Array Operand) : (xs.map a.eval).size = (evs tmps xs).length ∧ (∀ (k : Nat) x v, (evs tmps xs)[k]? = some x → (xs.map a.eval)[k]? = some v → VRel (cx ext β h w) x v) ∧ ∀ x, x ∈ evs tmps xs → Nm p x := by
  refine ⟨by simp [evs], fun k x v hx hv => ?_, fun x hx => ?_⟩
  · simp only [evs, List.getElem?_map] at hx
    obtain ⟨o, ho, rfl⟩ := Option.map_eq_some_iff.1 hx
    rw [Array.getElem?_map] at hv
    obtain ⟨o', ho', rfl⟩ := Option.map_eq_some_iff.1 hv
    have : o = o' := by
      have h1 : xs.toList[k]? = xs[k]? := by simp
      rw [h1, ho'] at ho
      exact (Option.some.inj ho).symm
    subst this
    exact i.ev o
  · simp only [evs, List.mem_map] at hx
    obtain ⟨o, _, rfl⟩ := hx
    exact i.nm_ev o

theorem evp_rel (i : SInP n0 ext β p tmps h a w) (xs : Array (Nat × Operand)) : (evp tmps xs).length = (xs.map fun (j, x) => (j, a.eval x)).size ∧
    (∀ (k : Nat) x v, (evp tmps xs)[k]? = some x → (xs.map fun (j, x) => (j, a.eval x))[k]? = some v → x.1 = v.1 ∧ VRel (cx ext β h w) x.2 v.2) ∧ ∀ x, x ∈ evp tmps xs → Nm p x.2 := by
  refine ⟨by simp [evp], fun k x v hx hv => ?_, fun x hx => ?_⟩
  · simp only [evp, List.getElem?_map] at hx
    obtain ⟨o, ho, rfl⟩ := Option.map_eq_some_iff.1 hx
    rw [Array.getElem?_map] at hv
    obtain ⟨o', ho', rfl⟩ := Option.map_eq_some_iff.1 hv
    have : o = o' := by
      have h1 : xs.toList[k]? = xs[k]? := by simp
      rw [h1, ho'] at ho
      exact (Option.some.inj ho).symm
    subst this
    exact ⟨rfl, i.ev o.2⟩
  · simp only [evp, List.mem_map] at hx
    obtain ⟨o, _, rfl⟩ := hx
    exact i.nm_ev o.2

theorem map_pair {α : Type} {o : Option α} {h : Heap} {r : α × Heap} (e : (o.map fun y => (y, h)) = some r) : o = some r.1 ∧ r.2 = h := by
  obtain ⟨y, h1, rfl⟩ := Option.map_eq_some_iff.1 e
  exact ⟨h1, rfl⟩

theorem list_two {α : Type} {l : Array α} {x y : α} (h : l.toList = [x, y]) : l = #[x, y] := by
  cases l; simp at h; subst h; rfl

theorem list_one {α : Type} {l : Array α} {x : α} (h : l.toList = [x]) : l = #[x] := by
  cases l; simp at h; subst h; rfl

/-- The operation's own run, for what gives a value. -/
theorem out_val (hin : HIn ext β p h w) {s : Sem Value} {x : AVal} (hs : ∃ u, s.run P w = .ok u w ∧ VRel (cx ext β h w) x u ∧ Nm p x) : Out P ext β p h w fresh (do pure (.value (← s))) x h := by
  obtain ⟨u, h1, h2, h3⟩ := hs
  exact out_pure hin (v := u) (by simp [h1]) h2 h3

theorem out_builtin (i : SInP n0 ext β p tmps h a w) (hpf : ¬ p fresh) {o : Oper} {c : Call} (ho : o.op = .call c) {b : Builtin} (hb : c.callee = .builtin b) {y : AVal} {h' : Heap}
    (hy : abuiltin P h fresh b c.argTypes.toList (evs tmps c.args) = some (y, h')) : Out P ext β p h w fresh (execOp a.eval o) y h' := by
  have hex : execOp a.eval o = builtin b c.argTypes o.type (c.args.map fun | .const _ => true | _ => false) (c.args.map a.eval) := by
    simp only [execOp, ho, resolve, hb, pure_bind]
    rfl
  rw [hex]
  obtain ⟨e1, e2, e3⟩ := evs_rel i c.args
  have one : ∀ x, evs tmps c.args = [x] → ∃ v, c.args.map a.eval = #[v] ∧ VRel (cx ext β h w) x v ∧ Nm p x := fun x hx => by
    have hl : (c.args.map a.eval).size = 1 := by rw [e1, hx]; rfl
    obtain ⟨v, hv⟩ : ∃ v, c.args.map a.eval = #[v] := by
      generalize c.args.map a.eval = l at hl
      obtain ⟨l⟩ := l
      match l, hl with
      | [v], _ => exact ⟨v, rfl⟩
    exact ⟨v, hv, e2 0 x v (by rw [hx]; rfl) (by rw [hv]; rfl), e3 x (by rw [hx]; simp)⟩
  have two : ∀ x z, evs tmps c.args = [x, z] → ∃ v u, c.args.map a.eval = #[v, u] ∧ VRel (cx ext β h w) x v ∧ VRel (cx ext β h w) z u ∧ Nm p x ∧ Nm p z := fun x z hx => by
    have hl : (c.args.map a.eval).size = 2 := by rw [e1, hx]; rfl
    obtain ⟨v, u, hv⟩ : ∃ v u, c.args.map a.eval = #[v, u] := by
      generalize c.args.map a.eval = l at hl
      obtain ⟨l⟩ := l
      match l, hl with
      | [v, u], _ => exact ⟨v, u, rfl⟩
    exact ⟨v, u, hv, e2 0 x v (by rw [hx]; rfl) (by rw [hv]; rfl), e2 1 z u (by rw [hx]; rfl) (by rw [hv]; rfl), e3 x (by rw [hx]; simp), e3 z (by rw [hx]; simp)⟩
  unfold abuiltin at hy
  split at hy
  case h_6 => cases hy
  · rename_i t x hts hxs
    obtain ⟨h1, h2⟩ := map_pair hy
    simp only at h1 h2
    subst h2
    obtain ⟨v, hv, hr, hn⟩ := one x hxs
    rw [hv, list_one hts]
    exact out_val (s := Builtin.len_ #[t] o.type #[v]) i.heap (alen_ok (c := cx ext β _ w) w hr h1)
  · rename_i st xt s x hts hxs
    obtain ⟨v, u, hv, hr, hr', hn, hn'⟩ := two s x hxs
    rw [hv, list_two hts]
    exact out_aappend i.heap hpf hr hr' hn hn' hy
  · rename_i x z hxs
    obtain ⟨h1, h2⟩ := map_pair hy
    simp only at h1 h2
    subst h2
    obtain ⟨v, u, hv, hr, hr', hn, hn'⟩ := two x z hxs
    rw [hv]
    exact out_val (s := Builtin.max_ c.argTypes o.type #[v, u]) i.heap (amax_ok w hr hr' h1)
  · rename_i x z hxs
    obtain ⟨h1, h2⟩ := map_pair hy
    simp only at h1 h2
    subst h2
    obtain ⟨v, u, hv, hr, hr', hn, hn'⟩ := two x z hxs
    rw [hv]
    exact out_val (s := Builtin.min_ c.argTypes o.type #[v, u]) i.heap (amin_ok w hr hr' h1)
  · rename_i t kt m k hts hxs
    obtain ⟨v, u, hv, hr, hr', hn, hn'⟩ := two m k hxs
    rw [hv, list_two hts]
    exact out_delete i.heap hr hr' hy

theorem Fz_zero {t : TypeId} {ti : TI} (ht : tab P t = some ti) : Fz ti.zero := by
  obtain ⟨i, d, z, h1, h2, h3, h4, h5, h6, h7, h8⟩ := tab_spec ht
  rw [← h8]
  exact Fz_ofV z

/-- One operation of the machine goes as it does over the abstract state. -/
theorem astep_ok (i : SInP n0 ext β p tmps h a w) (hpf : ¬ p fresh) {o : Oper} {y : AVal} {h' : Heap} (hy : astep P tmps h fresh o = some (y, h')) : Out P ext β p h w fresh (execOp a.eval o) y h' := by
  have hin := i.heap
  obtain ⟨dst, op, type, pos, after, guard⟩ := o
  cases op <;> simp only [astep] at hy <;> try (cases hy; done)
  case move x => injection hy with hy; injection hy with e1 e2; subst e1 e2; exact out_pure hin (v := a.eval x) rfl (i.ev x) (i.nm_ev x)
  case assign x => injection hy with hy; injection hy with e1 e2; subst e1 e2; exact out_pure hin (v := a.eval x) rfl (i.ev x) (i.nm_ev x)
  case pick c x z =>
    split at hy
    case h_2 => cases hy
    rename_i t hc
    injection hy with hy; injection hy with e1 e2; subst e1 e2
    have hv := i.ev c
    rw [hc] at hv
    generalize hz : a.eval c = cv at hv
    cases hv
    refine out_pure hin (v := if t then a.eval x else a.eval z) (by simp only [execOp, hz]; rfl) ?_ ?_
    · unfold apick
      split
      · rename_i q1 q2 h1 h2
        have r1 := i.ev x; have r2 := i.ev z
        rw [h1] at r1; rw [h2] at r2
        cases t
        · generalize a.eval z = zz at r2; cases r2; simpa using VRel.bool _
        · generalize a.eval x = zz at r1; cases r1; simpa using VRel.bool _
      · cases t
        · simpa using i.ev z
        · simpa using i.ev x
    · unfold apick
      split
      · exact .bool _
      · cases t
        · simpa using i.nm_ev z
        · simpa using i.nm_ev x
  case alloc elem =>
    split at hy
    case h_2 => cases hy
    rename_i ti ht
    obtain ⟨z, hz, hz1, _⟩ := run_zero (P := P) w ht
    refine out_abox (elem := elem) hin hpf (v := z) (by rw [← hz1]; exact VRel_ofV _ z) (Fz.nm (Fz_zero ht) p) hy ?_
    simp [execOp, Instr.alloc, hz]
  case box elem x =>
    refine out_abox (elem := elem) hin hpf (i.ev x) (i.nm_ev x) hy ?_
    simp [execOp, Instr.box]
  case build t parts =>
    obtain ⟨h1, h2⟩ := map_pair hy
    simp only at h1 h2
    subst h2
    obtain ⟨e1, e2, e3⟩ := evp_rel i parts
    exact out_val (s := Instr.build t (parts.map fun (j, x) => (j, a.eval x))) hin (abuild_ok w e1 e2 e3 h1)
  case buildSlice t len parts =>
    obtain ⟨e1, e2, e3⟩ := evp_rel i parts
    exact out_buildSlice hin hpf e1 e2 e3 hy
  case load t x =>
    obtain ⟨h1, h2⟩ := map_pair hy
    simp only at h1 h2
    subst h2
    exact out_val (s := Instr.loadAt t (a.eval x)) hin (aload_ok hin (i.ev x) (i.nm_ev x) h1)
  case store t x z =>
    obtain ⟨h1, h2, h3⟩ := Option.map_eq_some_iff.1 hy
    injection h3 with e1 e2
    subst e1 e2
    exact out_astore hin (i.ev x) (i.ev z) (i.nm_ev x) (i.nm_ev z) h2
  case nilCheck x =>
    split at hy
    case isFalse => cases hy
    rename_i hn
    injection hy with hy; injection hy with e1 e2; subst e1 e2
    have hv := i.ev x
    refine out_pure hin (v := a.eval x) ?_ hv (i.nm_ev x)
    simp only [execOp]
    generalize a.eval x = v at hv
    generalize ev tmps x = z at hv hn
    cases hv <;> simp [anil] at hn <;> try rfl
    rename_i fn _ _ _ _ _ _ _ _
    cases fn <;> simp at hn
    rfl
  case binOp op t x z yt =>
    obtain ⟨h1, h2⟩ := map_pair hy
    simp only at h1 h2
    subst h2
    obtain ⟨r, h3, h4, h5⟩ := abin_ok (P := P) (cx ext β _ w) w (i.ev x) (i.ev z) h1 x z
    exact out_pure hin (v := r) (by
      have : execOp a.eval { dst := dst, op := .binOp op t x z yt, type := type, pos := pos, after := after, guard := guard } = (do pure (.value (← (do eqGuard op t x z (a.eval x) (a.eval z); binOp op t (a.eval x) (a.eval z) : Sem Value))) : Sem Next) := rfl
      rw [this, Sem.run_bind, h3]; rfl) h4 (Fz.nm h5 p)
  case unOp op t x =>
    obtain ⟨h1, h2⟩ := map_pair hy
    simp only at h1 h2
    subst h2
    exact out_val (s := Op.unary op (a.eval x)) hin (aunary_ok w (i.ev x) h1)
  case convert src dst' x =>
    split at hy
    case h_2 => cases hy
    rename_i ts ht
    obtain ⟨h1, h2⟩ := map_pair hy
    simp only at h1 h2
    subst h2
    exact out_val (s := convert src dst' (a.eval x)) hin (aconvert_ok w ht (i.ev x) h1)
  case makeInterface t x =>
    obtain ⟨h1, h2⟩ := map_pair hy
    simp only at h1 h2
    subst h2
    exact out_val (s := Instr.makeInterface t (a.eval x)) hin (aiface_ok w (i.ev x) (i.nm_ev x) h1)
  case makeFunc fn first captured =>
    injection hy with hy; injection hy with e1 e2; subst e1 e2
    obtain ⟨e1, e2, e3⟩ := evs_rel i first
    obtain ⟨e4, e5, e6⟩ := evs_rel i captured
    exact out_pure hin (v := .func fn (first.map a.eval) (captured.map a.eval)) rfl (.func _ _ _ _ _ e1 e4 e2 e5) (.func _ _ _ e3 e6)
  case makeSlice t l c => exact out_makeSlice hin hpf (i.ev l) (i.ev c) hy
  case slice t x lo hi mx =>
    obtain ⟨h1, h2⟩ := map_pair hy
    simp only at h1 h2
    subst h2
    have ho : ∀ (o : Option Operand) x, o.map (ev tmps) = some x → ∃ v, o.map a.eval = some v ∧ VRel (cx ext β _ w) x v := fun o x hx => by
      obtain ⟨q, rfl, rfl⟩ := Option.map_eq_some_iff.1 hx
      exact ⟨_, rfl, i.ev q⟩
    have hno : ∀ (o : Option Operand), o.map (ev tmps) = none → o.map a.eval = none := fun o ho => by cases o <;> simp at ho ⊢
    exact out_val (s := Instr.sliceAt t (a.eval x) (lo.map a.eval) (hi.map a.eval) (mx.map a.eval)) hin
      (aslice_ok (c := cx ext β _ w) w (i.ev x) (i.nm_ev x) h1 (ho lo) (hno lo) (ho hi) (hno hi) (ho mx) (hno mx))
  case fieldAddr t x f =>
    obtain ⟨h1, h2⟩ := map_pair hy
    simp only at h1 h2
    subst h2
    exact out_val (s := Instr.fieldAt t (a.eval x) f) hin (afieldAddr_ok w (i.ev x) (i.nm_ev x) h1)
  case field t x f =>
    obtain ⟨h1, h2⟩ := map_pair hy
    simp only at h1 h2
    subst h2
    exact out_val (s := Instr.field t (a.eval x) f) hin (afield_ok w (i.ev x) (i.nm_ev x) h1)
  case indexAddr t x ix =>
    obtain ⟨h1, h2⟩ := map_pair hy
    simp only at h1 h2
    subst h2
    exact out_val (s := Instr.indexAt t (a.eval x) (a.eval ix)) hin (aindexAddr_ok (c := cx ext β _ w) w (i.ev x) (i.ev ix) (i.nm_ev x) h1)
  case index t x ix =>
    obtain ⟨h1, h2⟩ := map_pair hy
    simp only at h1 h2
    subst h2
    exact out_val (s := Instr.index t (a.eval x) (a.eval ix)) hin (aindex_ok w (i.ev x) (i.ev ix) (i.nm_ev x) h1)
  case extract x ix =>
    obtain ⟨h1, h2⟩ := map_pair hy
    simp only at h1 h2
    subst h2
    exact out_val (s := Instr.extract (a.eval x) ix) hin (aextract_ok w (i.ev x) (i.nm_ev x) h1)
  case makeMap t r =>
    split at hy
    · injection hy with hy; injection hy with e1 e2; subst e1 e2
      exact out_makeMap hin hpf
    · cases hy
  case lookup t x k ok =>
    obtain ⟨h1, h2⟩ := map_pair hy
    simp only at h1 h2
    subst h2
    exact out_val (s := Instr.lookup t (a.eval x) (a.eval k) ok) hin (out_lookup hin (i.ev x) (i.ev k) (i.nm_ev x) h1)
  case mapUpdate t m k x =>
    obtain ⟨h1, h2, h3⟩ := Option.map_eq_some_iff.1 hy
    injection h3 with e1 e2
    subst e1 e2
    exact out_mapUpdate hin (i.ev m) (i.ev k) (i.ev x) (i.nm_ev k) (i.nm_ev x) h2
  case insert t m k x =>
    obtain ⟨h1, h2, h3⟩ := Option.map_eq_some_iff.1 hy
    injection h3 with e1 e2
    subst e1 e2
    exact out_mapUpdate hin (i.ev m) (i.ev k) (i.ev x) (i.nm_ev k) (i.nm_ev x) h2
  case mapEntry t m k => exact out_mapEntry hin (i.ev m) (i.ev k) (i.nm_ev k) hy
  case entryStore t m k x =>
    obtain ⟨h1, h2, h3⟩ := Option.map_eq_some_iff.1 hy
    injection h3 with e1 e2
    subst e1 e2
    exact out_entryStore (t := t) hin (i.ev m) (i.ev k) (i.ev x) (i.nm_ev x) h2
  case call c =>
    split at hy
    case h_2 => cases hy
    rename_i b hb
    exact out_builtin i hpf rfl hb hy

end
end Go.AM
