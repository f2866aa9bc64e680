/-
  AM, merged: 17 18 19 20 21 22 23 24 25 26 27 28.
-/
import Derived.Test.YtdgjelfeclgolaaAMB
import Derived.Below
import Derived.ChangeBears
import Derived.DataReads

section
namespace Go.AM
open Go

/-- One operation is ahead of another one. -/
inductive Before (all : Array Oper) : Nat → Nat → Prop
  | edge (i : Nat) (o : Oper) (e : Edge) (ho : all[i]? = some o) (he : e ∈ o.after) (hb : Region.binds .any e = true) : Before all e.on i
  | trans (i j k : Nat) (h : Before all i j) (h' : Before all j k) : Before all i k

def addP (acc : List Nat) : List Edge → Nat
  | [] => 0
  | e :: es => if Region.binds .any e then addP acc es ||| (1 <<< e.on ||| acc.getD e.on 0) else addP acc es

theorem addP_ok {acc : List Nat} {k : Nat} : ∀ {es : List Edge}, (addP acc es).testBit k = true → ∃ e, e ∈ es ∧ Region.binds .any e = true ∧ (k = e.on ∨ (acc.getD e.on 0).testBit k = true)
  | [], h => by simp [addP] at h
  | e :: es, h => by
    unfold addP at h
    split at h
    · rename_i hb
      rw [Nat.testBit_or, Nat.testBit_or, Bool.or_eq_true, Bool.or_eq_true] at h
      rcases h with h | h | h
      · obtain ⟨e', h1, h2⟩ := addP_ok h
        exact ⟨e', List.mem_cons_of_mem _ h1, h2⟩
      · rw [Nat.one_shiftLeft, Nat.testBit_two_pow] at h
        exact ⟨e, List.mem_cons_self, hb, .inl (of_decide_eq_true h).symm⟩
      · exact ⟨e, List.mem_cons_self, hb, .inr h⟩
    · obtain ⟨e', h1, h2⟩ := addP_ok h
      exact ⟨e', List.mem_cons_of_mem _ h1, h2⟩

def predsGo : List Oper → List Nat → List Nat
  | [], acc => acc
  | o :: rest, acc => predsGo rest (acc ++ [addP acc o.after.toList])

/-- Of each operation those that are ahead of it, as the bits of a number. -/
def preds (all : Array Oper) : List Nat := predsGo all.toList []

theorem predsGo_ok (all : Array Oper) : ∀ (rest : List Oper) (acc : List Nat), all.toList.drop acc.length = rest →
    (∀ (i : Nat) l, acc[i]? = some l → ∀ k, l.testBit k = true → Before all k i) → ∀ (i : Nat) l, (predsGo rest acc)[i]? = some l → ∀ k, l.testBit k = true → Before all k i
  | [], acc, _, h => h
  | o :: rest, acc, hd, h => by
    refine predsGo_ok all rest _ ?_ ?_
    · rw [List.length_append, List.length_singleton, ← List.tail_drop, hd]; rfl
    · intro i l hi k hk
      by_cases hlt : i < acc.length
      · rw [List.getElem?_append_left hlt] at hi
        exact h i l hi k hk
      · rw [List.getElem?_append_right (by omega)] at hi
        have hi0 : i = acc.length := by
          have := (List.getElem?_eq_some_iff.1 hi).1
          simp at this
          omega
        subst hi0
        simp at hi
        subst hi
        have ho : all[acc.length]? = some o := by
          have h1 : (all.toList.drop acc.length)[0]? = some o := by rw [hd]; rfl
          rw [List.getElem?_drop] at h1
          simpa using h1
        obtain ⟨e, he, hb, hk⟩ := addP_ok hk
        have he' : e ∈ o.after := by simpa using he
        rcases hk with rfl | hk
        · exact .edge _ o e ho he' hb
        · rw [List.getD_eq_getElem?_getD] at hk
          cases hg : acc[e.on]? with
          | none => rw [hg] at hk; simp at hk
          | some l =>
            rw [hg] at hk
            exact .trans _ _ _ (h e.on l hg k hk) (.edge _ o e ho he' hb)

def pre (all : Array Oper) (i : Nat) : Nat := (preds all).getD i 0

theorem pre_ok {all : Array Oper} {k i : Nat} (h : (pre all i).testBit k = true) : Before all k i := by
  unfold pre at h
  rw [List.getD_eq_getElem?_getD] at h
  cases hg : (preds all)[i]? with
  | none => rw [hg] at h; simp at h
  | some l =>
    rw [hg] at h
    exact predsGo_ok all all.toList [] rfl (by simp) i l hg k h

/-- What the text alone has to show. -/
def chk (all : Array Oper) (P : List Nat) : Bool :=
  (List.range all.size).all fun i =>
    match all[i]? with
    | none => true
    | some o =>
      (o.after.toList.all fun e => !Region.binds .any e || decide (e.on < i)) &&
      (List.range all.size).all fun k =>
        match (all[k]?).bind (·.dst) with
        | none => true
        | some d => k == i || ((o.dst != some d) && (!(o.looksAt all).contains d || (P.getD i 0).testBit k || (P.getD k 0).testBit i))

/-- What is looked at, and may be written, by two that are not ordered, is not the same. -/
def indepB (n n0 : Nat) (P : List Nat) (tc : List (Bool × List Nat)) : Bool :=
  (List.range n).all fun i => (List.range n).all fun k =>
    i == k || (P.getD i 0).testBit k || (P.getD k 0).testBit i ||
    (((tc.getD i (false, [])).1 == false || ((tc.getD i (false, [])).2.all fun id => !(tc.getD k (false, [])).2.contains id)) && !(tc.getD k (false, [])).2.contains (n0 + i))

def isWriter (o : Oper) : Bool :=
  match o.op with
  | .store .. => true
  | .mapUpdate .. => true
  | .insert .. => true
  | .mapEntry .. => true
  | .entryStore .. => true
  | .call c => match c.callee with | .builtin .append => true | .builtin .delete => true | _ => false
  | _ => false

/-- An operation that writes no object that was there. -/
theorem astep_keeps {P : Program} {tm : List AVal} {h h' : Heap} {f : Nat} {o : Oper} {y : AVal} (hw : isWriter o = false) (hs : astep P tm h f o = some (y, h')) (id : Nat) (hid : id ≠ f) : lk h' id = lk h id := by
  have same : ∀ {g : Option AVal}, g.map (fun y => (y, h)) = some (y, h') → lk h' id = lk h id := fun hh => by
    obtain ⟨z, h3, h4⟩ := Option.map_eq_some_iff.1 hh
    injection h4 with e1 e2
    rw [← e2]
  have pure' : ∀ {z : AVal}, some (z, h) = some (y, h') → lk h' id = lk h id := fun hh => by
    injection hh with hh
    injection hh with e1 e2
    rw [← e2]
  have cons : ∀ {z : AVal} {ob : Ob}, some (z, (f, ob) :: h) = some (y, h') → lk h' id = lk h id := fun hh => by
    injection hh with hh
    injection hh with e1 e2
    rw [← e2, lk_cons, if_neg hid]
  have box : ∀ {x : AVal}, abox h f x = some (y, h') → lk h' id = lk h id := fun hh => by
    unfold abox at hh
    split at hh
    · exact cons hh
    · cases hh
  obtain ⟨dst, op, type, pos, after, guard⟩ := o
  cases op <;> simp only [astep] at hs <;> try (cases hs; done)
  case move x => exact pure' hs
  case assign x => exact pure' hs
  case pick c x z =>
    split at hs
    · exact pure' hs
    · cases hs
  case alloc elem =>
    split at hs
    · exact box hs
    · cases hs
  case box elem x => exact box hs
  case build t parts => exact same hs
  case buildSlice t len parts =>
    unfold abuildSlice at hs
    repeat' (split at hs)
    all_goals first | (cases hs; done) | exact cons hs
  case load t x => exact same hs
  case store t x z => simp [isWriter] at hw
  case nilCheck x =>
    split at hs
    · exact pure' hs
    · cases hs
  case binOp op t x z yt => exact same hs
  case unOp op t x => exact same hs
  case convert src dst' x =>
    split at hs
    · exact same hs
    · cases hs
  case makeInterface t x => exact same hs
  case makeFunc fn first captured => exact pure' hs
  case makeSlice t l c =>
    unfold amakeSlice at hs
    repeat' (split at hs)
    all_goals first | (cases hs; done) | exact cons hs
  case slice t x lo hi mx => exact same hs
  case fieldAddr t x fl => exact same hs
  case field t x fl => exact same hs
  case indexAddr t x ix => exact same hs
  case index t x ix => exact same hs
  case extract x ix => exact same hs
  case makeMap t r =>
    split at hs
    · exact cons hs
    · cases hs
  case lookup t x k ok => exact same hs
  case mapUpdate t m k x => simp [isWriter] at hw
  case insert t m k x => simp [isWriter] at hw
  case mapEntry t m k => simp [isWriter] at hw
  case entryStore t m k x => simp [isWriter] at hw
  case call c =>
    split at hs
    case h_2 => cases hs
    rename_i b hb
    unfold abuiltin at hs
    split at hs
    case h_6 => cases hs
    · exact same hs
    · simp [isWriter, hb] at hw
    · exact same hs
    · exact same hs
    · simp [isWriter, hb] at hw

/-- It makes no object longer. -/
def notApp (o : Oper) : Bool :=
  match o.op with
  | .call c => match c.callee with | .builtin .append => false | _ => true
  | _ => true

/-- It looks at no cell. -/
def adrOp (o : Oper) : Bool :=
  match o.op with
  | .move _ => true
  | .assign _ => true
  | .fieldAddr .. => true
  | .indexAddr .. => true
  | .extract .. => true
  | _ => false

def shpO : Option Ob → Option (Nat × Nat)
  | some (.arr e rows) => some (e, rows.length)
  | _ => none

theorem shp_up {h : Heap} {j : Nat} {M M' : MapA} (hl : lk h j = some (.mp M)) (id : Nat) : shpO (lk (hset h j (.mp M')) id) = shpO (lk h id) := by
  rw [lk_hset _ hl]
  split
  · rename_i e
    subst e
    rw [hl]
    rfl
  · rfl

theorem shp_mp {P : Program} {h h' : Heap} {t : TypeId} {x k v : AVal} (hs : amapUpdate P h t x k v = some h') (id : Nat) : shpO (lk h' id) = shpO (lk h id) := by
  unfold amapUpdate at hs
  repeat' (split at hs)
  all_goals first | (cases hs; done) | skip
  all_goals
    have hl := ‹lk h _ = some (Ob.mp _)›
    injection hs with hs
    subst hs
    exact shp_up hl id

theorem shp_ent {P : Program} {h h' : Heap} {t : TypeId} {x k y : AVal} (hs : amapEntry P h t x k = some (y, h')) (id : Nat) : shpO (lk h' id) = shpO (lk h id) := by
  unfold amapEntry at hs
  repeat' (split at hs)
  all_goals first | (cases hs; done) | skip
  all_goals
    have hl := ‹lk h _ = some (Ob.mp _)›
    injection hs with hs
    injection hs with _ hs
    subst hs
    exact shp_up hl id

theorem shp_sto {h h' : Heap} {x k v : AVal} (hs : aentryStore h x k v = some h') (id : Nat) : shpO (lk h' id) = shpO (lk h id) := by
  unfold aentryStore at hs
  repeat' (split at hs)
  all_goals first | (cases hs; done) | skip
  rename_i hl
  obtain ⟨es, _, hs⟩ := Option.map_eq_some_iff.1 hs
  subst hs
  rw [lk_hset _ hl]
  split
  · rename_i e
    subst e
    rw [hl]
    rfl
  · rfl

theorem shp_del {P : Program} {h h' : Heap} {t : TypeId} {x k y : AVal} (hs : adelete P h t x k = some (y, h')) (id : Nat) : shpO (lk h' id) = shpO (lk h id) := by
  unfold adelete at hs
  repeat' (split at hs)
  all_goals first | (cases hs; done) | skip
  rename_i hl _
  injection hs with hs
  injection hs with _ hs
  subst hs
  rw [lk_hset _ hl]
  split
  · rename_i e
    subst e
    rw [hl]
    rfl
  · rfl

theorem astep_shape {P : Program} {tm : List AVal} {h h' : Heap} {f : Nat} {o : Oper} {y : AVal} (hna : notApp o = true) (hs : astep P tm h f o = some (y, h')) (id : Nat) (hid : id ≠ f) : shpO (lk h' id) = shpO (lk h id) := by
  by_cases hw : isWriter o = true
  · obtain ⟨dst, op, type, pos, after, guard⟩ := o
    cases op <;> simp only [isWriter] at hw <;> try (cases hw; done)
    case store t a x =>
      simp only [astep] at hs
      obtain ⟨h2, h3, h4⟩ := Option.map_eq_some_iff.1 hs
      injection h4 with e1 e2
      subst e2
      unfold astore at h3
      split at h3
      case h_2 => cases h3
      split at h3
      case h_2 => cases h3
      rename_i hl
      split at h3
      case isFalse => cases h3
      split at h3
      case h_2 => cases h3
      split at h3
      case isFalse => cases h3
      injection h3 with h3
      subst h3
      rw [lk_hset _ hl]
      split
      · rename_i e
        subst e
        rw [hl]
        simp [shpO]
      · rfl
    case mapUpdate t m k x =>
      simp only [astep] at hs
      obtain ⟨h2, h3, h4⟩ := Option.map_eq_some_iff.1 hs
      injection h4 with e1 e2
      subst e2
      exact shp_mp h3 id
    case insert t m k x =>
      simp only [astep] at hs
      obtain ⟨h2, h3, h4⟩ := Option.map_eq_some_iff.1 hs
      injection h4 with e1 e2
      subst e2
      exact shp_mp h3 id
    case mapEntry t m k => exact shp_ent hs id
    case entryStore t m k x =>
      simp only [astep] at hs
      obtain ⟨h2, h3, h4⟩ := Option.map_eq_some_iff.1 hs
      injection h4 with e1 e2
      subst e2
      exact shp_sto h3 id
    case call c =>
      simp only [notApp] at hna
      split at hw
      · rename_i hb
        rw [hb] at hna
        simp at hna
      · rename_i hb
        simp only [astep, hb] at hs
        unfold abuiltin at hs
        split at hs
        all_goals try contradiction
        exact shp_del hs id
      · cases hw
  · rw [astep_keeps (by simpa using hw) hs id hid]

theorem astep_adr {P : Program} {tm : List AVal} {h h' g : Heap} {f n : Nat} {o : Oper} {y : AVal} (ha : adrOp o = true) (ht : ∀ id, id ∈ touched tm o → id < n) (hs : astep P tm h f o = some (y, h')) (hg : ∀ id, id < n → shpO (lk g id) = shpO (lk h id)) :
    h' = h ∧ astep P tm g f o = some (y, g) := by
  have same : ∀ {z z' : Option AVal}, z = z' → z.map (fun y => (y, h)) = some (y, h') → h' = h ∧ z'.map (fun y => (y, g)) = some (y, g) := fun e hh => by
    subst e
    obtain ⟨w, h3, h4⟩ := Option.map_eq_some_iff.1 hh
    injection h4 with e1 e2
    exact ⟨e2.symm, by rw [h3, ← e1]; rfl⟩
  obtain ⟨dst, op, type, pos, after, guard⟩ := o
  cases op <;> simp only [adrOp] at ha <;> try (cases ha; done)
  case move x =>
    simp only [astep] at hs ⊢
    injection hs with hs
    injection hs with e1 e2
    exact ⟨e2.symm, by rw [e1]⟩
  case assign x =>
    simp only [astep] at hs ⊢
    injection hs with hs
    injection hs with e1 e2
    exact ⟨e2.symm, by rw [e1]⟩
  case fieldAddr s x k => exact same rfl hs
  case extract x i => exact same rfl hs
  case indexAddr t x ix =>
    refine same ?_ hs
    have hx : ∀ id, id ∈ touchOf (ev tm x) → id < n := fun id hid => ht id (mem_touched (by simp [Op.operands]) id hid)
    unfold aindexAddr
    cases hxx : ev tm x with
    | ref id sz base len ex c =>
      rw [hxx] at hx
      have := hg id (hx id (by simp [touchOf]))
      cases h1 : lk h id with
      | none =>
        rw [h1] at this
        cases h2 : lk g id with
        | none => simp only [h1, h2]
        | some o2 =>
          rw [h2] at this
          cases o2 with
          | arr e r => simp [shpO] at this
          | mp es => simp only [h1, h2]
      | some o1 =>
        rw [h1] at this
        cases o1 with
        | arr e1 r1 =>
          cases h2 : lk g id with
          | none => rw [h2] at this; simp [shpO] at this
          | some o2 =>
            rw [h2] at this
            cases o2 with
            | arr e2 r2 =>
              simp only [shpO, Option.some.injEq, Prod.mk.injEq] at this
              simp only [h1, h2, this.1, this.2]
            | mp es => simp [shpO] at this
        | mp es =>
          cases h2 : lk g id with
          | none => simp only [h1, h2]
          | some o2 =>
            rw [h2] at this
            cases o2 with
            | arr e r => simp [shpO] at this
            | mp es' => simp only [h1, h2]
    | _ => rfl

/-- An operation whose answer is a value that nobody will write, whatever else goes on. -/
def LitOp (P : Program) (tm : List AVal) (o : Oper) (y : AVal) : Prop :=
  ∀ (n0 : Nat) (ext : Nat → Prop) (β : Nat → Option Nat) (p : Nat → Prop) (tmps : List AVal) (h : Heap) (a : Act) (w : World), SInP n0 ext β p tmps h a w → (∀ x, x ∈ o.op.operands → ev tmps x = ev tm x) →
    ∀ (K : Act → World → Prop) (Q : Exit → Act → World → Prop), (∀ v w', HIn ext β p h w' → VRel (cx ext β h w') y v → Fz y → Evo (owns β h) w (owns β h) w' → (∀ q, Step q (cx ext β h w) (cx ext β h w')) → K (a.put o.dst v) w') → o.wp P a w K Q

/-- Objects are set anew. -/
def upds (h : Heap) : Heap → Heap
  | [] => h
  | (i, o) :: l => upds (hset h i o) l

/-- A new object, if there is one. -/
def addF (f : Nat) : Option (Nat → Ob) → Heap → Heap
  | none, h => h
  | some ob, h => (f, ob f) :: h

/-- An operation that sets some objects anew, and may make a new one, whatever else there is. -/
def EffOp (P : Program) (tm : List AVal) (o : Oper) (y : Nat → AVal) (L : Heap) (L' : Nat → Heap) (N : Option (Nat → Ob)) : Prop :=
  ∀ (n0 : Nat) (ext : Nat → Prop) (β : Nat → Option Nat) (p : Nat → Prop) (tmps : List AVal) (h : Heap) (a : Act) (w : World) (f : Nat), SInP n0 ext β p tmps h a w → ¬ p f → (∀ x, x ∈ o.op.operands → ev tmps x = ev tm x) → (∀ e, e ∈ L → lk h e.1 = some e.2) →
    ∀ (K : Act → World → Prop) (Q : Exit → Act → World → Prop), (∀ v w' β', HIn ext β' (fun j => p j ∨ j = f) (addF f N (upds h (L' f))) w' → VRel (cx ext β' (addF f N (upds h (L' f))) w') (y f) v → Nm (fun j => p j ∨ j = f) (y f) →
      Evo (owns β h) w (owns β' (addF f N (upds h (L' f)))) w' → Step p (cx ext β h w) (cx ext β' (addF f N (upds h (L' f))) w') → K (a.put o.dst v) w') → o.wp P a w K Q

/-- The row, in the order of the text. -/
inductive DR (fl : Bool) (P : Program) (all : Array Oper) (Pr : List Nat) (n0 : Nat) (K : St → Prop) : Nat → List AVal → Heap → List (Bool × List Nat) → Prop
  | nil (i : Nat) (tm : List AVal) (hp : Heap) (tc : List (Bool × List Nat)) (hi : i = all.size) (hind : indepB i n0 Pr tc = true) (h : K ⟨tm, hp, n0 + i⟩) : DR fl P all Pr n0 K i tm hp tc
  | skip (i : Nat) (tm : List AVal) (hp : Heap) (tc : List (Bool × List Nat)) (o : Oper) (ho : all[i]? = some o) (hg : guardA all tm o = some false)
      (h : DR fl P all Pr n0 K (i + 1) (putT tm o.dst (.tuple [])) hp (tc ++ [(false, [])])) : DR fl P all Pr n0 K i tm hp tc
  | step (i : Nat) (tm : List AVal) (hp : Heap) (tc : List (Bool × List Nat)) (o : Oper) (y : AVal) (hp' : Heap) (ho : all[i]? = some o) (hg : guardA all tm o = some true) (hs : astep P tm hp (n0 + i) o = some (y, hp'))
      (h : DR fl P all Pr n0 K (i + 1) (putT tm o.dst y) hp' (tc ++ [(isWriter o, touched tm o)])) : DR fl P all Pr n0 K i tm hp tc
  | adr (i : Nat) (tm : List AVal) (hp : Heap) (tc : List (Bool × List Nat)) (o : Oper) (y : AVal) (hp' : Heap) (ho : all[i]? = some o) (hg : guardA all tm o = some true) (hfl : fl = true) (ha : adrOp o = true) (hna : all.all notApp = true) (ht : ∀ id, id ∈ touched tm o → id < n0)
      (hs : astep P tm hp (n0 + i) o = some (y, hp')) (h : DR fl P all Pr n0 K (i + 1) (putT tm o.dst y) hp (tc ++ [(false, [])])) : DR fl P all Pr n0 K i tm hp tc
  | call (i : Nat) (tm : List AVal) (hp : Heap) (tc : List (Bool × List Nat)) (o : Oper) (c : Call) (g : FuncId) (args args' : List AVal) (r : AVal) (L : List Nat) (ho : all[i]? = some o) (hg : guardA all tm o = some true) (hop : o.op = .call c)
      (ht : target tm c = some (g, args)) (hc : PCall P g args' (· = r)) (hlen : args'.length = args.length) (hf : ∀ (k : Nat) x y, args[k]? = some x → args'[k]? = some y → Frz hp (· ∈ L) x y) (hflat : Flat r ∨ L = [])
      (h : DR fl P all Pr n0 K (i + 1) (putT tm o.dst r) hp (tc ++ [(false, L)])) : DR fl P all Pr n0 K i tm hp tc
  | fresh (i : Nat) (tm : List AVal) (hp : Heap) (tc : List (Bool × List Nat)) (o : Oper) (c : Call) (g : FuncId) (args args' : List AVal) (x : Nat → AVal) (ob : Ob) (ho : all[i]? = some o) (hg : guardA all tm o = some true) (hop : o.op = .call c)
      (ht : target tm c = some (g, args)) (hc : PNew P g args' x ob) (hlen : args'.length = args.length) (hf : ∀ (k : Nat) x y, args[k]? = some x → args'[k]? = some y → Frz hp (· ∈ ([] : List Nat)) x y)
      (h : DR fl P all Pr n0 K (i + 1) (putT tm o.dst (x (n0 + i))) ((n0 + i, ob) :: hp) (tc ++ [(false, [])])) : DR fl P all Pr n0 K i tm hp tc
  | lit (i : Nat) (tm : List AVal) (hp : Heap) (tc : List (Bool × List Nat)) (o : Oper) (y : AVal) (ho : all[i]? = some o) (hg : guardA all tm o = some true) (hl : LitOp P tm o y)
      (h : DR fl P all Pr n0 K (i + 1) (putT tm o.dst y) hp (tc ++ [(false, [])])) : DR fl P all Pr n0 K i tm hp tc
  | eff (i : Nat) (tm : List AVal) (hp : Heap) (tc : List (Bool × List Nat)) (o : Oper) (y : Nat → AVal) (L : Heap) (L' : Nat → Heap) (N : Option (Nat → Ob)) (ho : all[i]? = some o) (hg : guardA all tm o = some true) (hfl : fl = false) (hk : ∀ e, e ∈ L' (n0 + i) → e.1 ∈ L.map (·.1)) (hL : ∀ e, e ∈ L → lk hp e.1 = some e.2) (he : EffOp P tm o y L L' N)
      (h : DR fl P all Pr n0 K (i + 1) (putT tm o.dst (y (n0 + i))) (addF (n0 + i) N (upds hp (L' (n0 + i)))) (tc ++ [(true, L.map (·.1))])) : DR fl P all Pr n0 K i tm hp tc

/-- One operation's part of a plan. -/
def PS (fl : Bool) (P : Program) (all : Array Oper) (n0 : Nat) (tm : Nat → List AVal) (hp : Nat → Heap) (tc : Nat → Bool × List Nat) (i : Nat) : Prop :=
  ∃ o, all[i]? = some o ∧
    ((guardA all (tm i) o = some false ∧ tm (i + 1) = putT (tm i) o.dst (.tuple []) ∧ hp (i + 1) = hp i ∧ tc i = (false, [])) ∨
     (∃ y, guardA all (tm i) o = some true ∧ astep P (tm i) (hp i) (n0 + i) o = some (y, hp (i + 1)) ∧ tm (i + 1) = putT (tm i) o.dst y ∧ tc i = (isWriter o, touched (tm i) o)) ∨
     (∃ y, guardA all (tm i) o = some true ∧ fl = true ∧ adrOp o = true ∧ all.all notApp = true ∧ (∀ id, id ∈ touched (tm i) o → id < n0) ∧ astep P (tm i) (hp i) (n0 + i) o = some (y, hp (i + 1)) ∧ tm (i + 1) = putT (tm i) o.dst y ∧ tc i = (false, [])) ∨
     (∃ c g args args' r L, guardA all (tm i) o = some true ∧ o.op = .call c ∧ target (tm i) c = some (g, args) ∧ PCall P g args' (· = r) ∧ args'.length = args.length ∧
       (∀ (k : Nat) x y, args[k]? = some x → args'[k]? = some y → Frz (hp i) (· ∈ L) x y) ∧ (Flat r ∨ L = []) ∧ tm (i + 1) = putT (tm i) o.dst r ∧ hp (i + 1) = hp i ∧ tc i = (false, L)) ∨
     (∃ c g args args' x ob, guardA all (tm i) o = some true ∧ o.op = .call c ∧ target (tm i) c = some (g, args) ∧ PNew P g args' x ob ∧ args'.length = args.length ∧
       (∀ (k : Nat) x y, args[k]? = some x → args'[k]? = some y → Frz (hp i) (· ∈ ([] : List Nat)) x y) ∧ tm (i + 1) = putT (tm i) o.dst (x (n0 + i)) ∧ hp (i + 1) = (n0 + i, ob) :: hp i ∧ tc i = (false, [])) ∨
     (∃ y, guardA all (tm i) o = some true ∧ LitOp P (tm i) o y ∧ tm (i + 1) = putT (tm i) o.dst y ∧ hp (i + 1) = hp i ∧ tc i = (false, [])) ∨
     (∃ (y : Nat → AVal) (L : Heap) (L' : Nat → Heap) (N : Option (Nat → Ob)), guardA all (tm i) o = some true ∧ fl = false ∧ (∀ e, e ∈ L' (n0 + i) → e.1 ∈ L.map (·.1)) ∧ (∀ e, e ∈ L → lk (hp i) e.1 = some e.2) ∧ EffOp P (tm i) o y L L' N ∧ tm (i + 1) = putT (tm i) o.dst (y (n0 + i)) ∧ hp (i + 1) = addF (n0 + i) N (upds (hp i) (L' (n0 + i))) ∧ tc i = (true, L.map (·.1))))

theorem PS.congr {fl : Bool} {P : Program} {all : Array Oper} {n0 : Nat} {tm tm' : Nat → List AVal} {hp hp' : Nat → Heap} {tc tc' : Nat → Bool × List Nat} {i : Nat} (h : PS fl P all n0 tm hp tc i) (e1 : tm i = tm' i) (e2 : tm (i + 1) = tm' (i + 1))
    (e3 : hp i = hp' i) (e4 : hp (i + 1) = hp' (i + 1)) (e5 : tc i = tc' i) : PS fl P all n0 tm' hp' tc' i := by
  unfold PS at *
  rw [← e1, ← e2, ← e3, ← e4, ← e5]
  exact h

theorem DR.plan {fl : Bool} {P : Program} {all : Array Oper} {Pr : List Nat} {n0 : Nat} {K : St → Prop} {i : Nat} {t0 : List AVal} {h0 : Heap} {tc0 : List (Bool × List Nat)} (d : DR fl P all Pr n0 K i t0 h0 tc0) : tc0.length = i → i ≤ all.size →
    ∃ (tm : Nat → List AVal) (hp : Nat → Heap) (tcs : List (Bool × List Nat)), tm i = t0 ∧ hp i = h0 ∧ (∀ j, j < i → tcs[j]? = tc0[j]?) ∧ tcs.length = all.size ∧ (∀ j, i ≤ j → j < all.size → PS fl P all n0 tm hp (fun j => tcs.getD j (false, [])) j) ∧
      indepB all.size n0 Pr tcs = true ∧ K ⟨tm all.size, hp all.size, n0 + all.size⟩ := by
  have key : ∀ (i : Nat) (t0 : List AVal) (h0 : Heap) (tc0 : List (Bool × List Nat)) (e : Bool × List Nat), tc0.length = i → i < all.size → (∃ (tm : Nat → List AVal) (hp : Nat → Heap) (tcs : List (Bool × List Nat)),
      (∀ j, j < i + 1 → tcs[j]? = (tc0 ++ [e])[j]?) ∧ tcs.length = all.size ∧ (∀ j, i + 1 ≤ j → j < all.size → PS fl P all n0 tm hp (fun j => tcs.getD j (false, [])) j) ∧
      indepB all.size n0 Pr tcs = true ∧ K ⟨tm all.size, hp all.size, n0 + all.size⟩ ∧ (∀ (tm' : Nat → List AVal) (hp' : Nat → Heap), tm' i = t0 → hp' i = h0 → (∀ j, i < j → tm' j = tm j) → (∀ j, i < j → hp' j = hp j) → PS fl P all n0 tm' hp' (fun _ => e) i)) →
      ∃ (tm : Nat → List AVal) (hp : Nat → Heap) (tcs : List (Bool × List Nat)), tm i = t0 ∧ hp i = h0 ∧ (∀ j, j < i → tcs[j]? = tc0[j]?) ∧ tcs.length = all.size ∧ (∀ j, i ≤ j → j < all.size → PS fl P all n0 tm hp (fun j => tcs.getD j (false, [])) j) ∧
        indepB all.size n0 Pr tcs = true ∧ K ⟨tm all.size, hp all.size, n0 + all.size⟩ := by
    rintro i t0 h0 tc0 e hl hi ⟨tm, hp, tcs, h3, h4, h5, h6, h7, h8⟩
    refine ⟨fun j => if j = i then t0 else tm j, fun j => if j = i then h0 else hp j, tcs, by simp, by simp, fun j hj => ?_, h4, fun j hj hjs => ?_, h6, ?_⟩
    · rw [h3 j (by omega), List.getElem?_append_left (by omega)]
    · by_cases e1 : j = i
      · subst e1
        have := h8 (fun k => if k = j then t0 else tm k) (fun k => if k = j then h0 else hp k) (by simp) (by simp) (fun k hk => by simp [Nat.ne_of_gt hk]) (fun k hk => by simp [Nat.ne_of_gt hk])
        have e2 : tcs.getD j (false, []) = e := by
          rw [List.getD_eq_getElem?_getD, h3 j (by omega), List.getElem?_append_right (by omega), hl]; simp
        exact this.congr rfl rfl rfl rfl e2.symm
      · have := h5 j (by omega) hjs
        have e2 : ¬ j + 1 = i := by omega
        exact this.congr (by simp [e1]) (by simp [e2]) (by simp [e1]) (by simp [e2]) rfl
    · have e3 : ¬ all.size = i := by omega
      simp only [if_neg e3]
      exact h7
  induction d with
  | nil i tm hp tc hi hind h =>
    intro hl _
    subst hi
    exact ⟨fun _ => tm, fun _ => hp, tc, rfl, rfl, fun _ _ => rfl, hl, fun j h1 h2 => by omega, hind, h⟩
  | skip i tm hp tc o ho hg h ih =>
    intro hl hi
    have hlt : i < all.size := (Array.getElem?_eq_some_iff.1 ho).1
    obtain ⟨tm', hp', tcs, h1, h2, h3, h4, h5, h6, h7⟩ := ih (by simp [hl]) hlt
    exact key i tm hp tc _ hl hlt ⟨tm', hp', tcs, h3, h4, h5, h6, h7, fun tm2 hp2 q1 q2 q3 q4 => ⟨o, ho, .inl ⟨by rw [q1]; exact hg, by rw [q3 _ (by omega), h1, q1], by rw [q4 _ (by omega), h2, q2], rfl⟩⟩⟩
  | step i tm hp tc o y hp' ho hg hs h ih =>
    intro hl hi
    have hlt : i < all.size := (Array.getElem?_eq_some_iff.1 ho).1
    obtain ⟨tm', hp'', tcs, h1, h2, h3, h4, h5, h6, h7⟩ := ih (by simp [hl]) hlt
    exact key i tm hp tc _ hl hlt ⟨tm', hp'', tcs, h3, h4, h5, h6, h7, fun tm2 hp2 q1 q2 q3 q4 => ⟨o, ho, .inr (.inl ⟨y, by rw [q1]; exact hg, by rw [q1, q2, q4 _ (by omega), h2]; exact hs, by rw [q3 _ (by omega), h1, q1], by rw [q1]⟩)⟩⟩
  | adr i tm hp tc o y hp' ho hg hfl ha hna ht hs h ih =>
    intro hl hi
    have hlt : i < all.size := (Array.getElem?_eq_some_iff.1 ho).1
    obtain ⟨tm', hp'', tcs, h1, h2, h3, h4, h5, h6, h7⟩ := ih (by simp [hl]) hlt
    have he : hp' = hp := (astep_adr (g := hp) ha ht hs fun _ _ => rfl).1
    subst he
    exact key i tm _ tc _ hl hlt ⟨tm', hp'', tcs, h3, h4, h5, h6, h7, fun tm2 hp2 q1 q2 q3 q4 => ⟨o, ho, .inr (.inr (.inl ⟨y, by rw [q1]; exact hg, hfl, ha, hna, by rw [q1]; exact ht, by rw [q1, q2, q4 _ (by omega), h2]; exact hs, by rw [q3 _ (by omega), h1, q1], rfl⟩))⟩⟩
  | call i tm hp tc o c g args args' r L ho hg hop ht hc hlen hf hflat h ih =>
    intro hl hi
    have hlt : i < all.size := (Array.getElem?_eq_some_iff.1 ho).1
    obtain ⟨tm', hp'', tcs, h1, h2, h3, h4, h5, h6, h7⟩ := ih (by simp [hl]) hlt
    exact key i tm hp tc _ hl hlt ⟨tm', hp'', tcs, h3, h4, h5, h6, h7, fun tm2 hp2 q1 q2 q3 q4 => ⟨o, ho, .inr (.inr (.inr (.inl ⟨c, g, args, args', r, L, by rw [q1]; exact hg, hop, by rw [q1]; exact ht, hc, hlen, by rw [q2]; exact hf, hflat, by rw [q3 _ (by omega), h1, q1], by rw [q4 _ (by omega), h2, q2], rfl⟩)))⟩⟩
  | fresh i tm hp tc o c g args args' x ob ho hg hop ht hc hlen hf h ih =>
    intro hl hi
    have hlt : i < all.size := (Array.getElem?_eq_some_iff.1 ho).1
    obtain ⟨tm', hp'', tcs, h1, h2, h3, h4, h5, h6, h7⟩ := ih (by simp [hl]) hlt
    exact key i tm hp tc _ hl hlt ⟨tm', hp'', tcs, h3, h4, h5, h6, h7, fun tm2 hp2 q1 q2 q3 q4 => ⟨o, ho, .inr (.inr (.inr (.inr (.inl ⟨c, g, args, args', x, ob, by rw [q1]; exact hg, hop, by rw [q1]; exact ht, hc, hlen, by rw [q2]; exact hf, by rw [q3 _ (by omega), h1, q1], by rw [q4 _ (by omega), h2, q2], rfl⟩))))⟩⟩
  | lit i tm hp tc o y ho hg hl h ih =>
    intro hlen hi
    have hlt : i < all.size := (Array.getElem?_eq_some_iff.1 ho).1
    obtain ⟨tm', hp'', tcs, h1, h2, h3, h4, h5, h6, h7⟩ := ih (by simp [hlen]) hlt
    exact key i tm hp tc _ hlen hlt ⟨tm', hp'', tcs, h3, h4, h5, h6, h7, fun tm2 hp2 q1 q2 q3 q4 => ⟨o, ho, .inr (.inr (.inr (.inr (.inr (.inl ⟨y, by rw [q1]; exact hg, by rw [q1]; exact hl, by rw [q3 _ (by omega), h1, q1], by rw [q4 _ (by omega), h2, q2], rfl⟩)))))⟩⟩
  | eff i tm hp tc o y L L' N ho hg hfl hk hL he h ih =>
    intro hlen hi
    have hlt : i < all.size := (Array.getElem?_eq_some_iff.1 ho).1
    obtain ⟨tm', hp'', tcs, h1, h2, h3, h4, h5, h6, h7⟩ := ih (by simp [hlen]) hlt
    exact key i tm hp tc _ hlen hlt ⟨tm', hp'', tcs, h3, h4, h5, h6, h7, fun tm2 hp2 q1 q2 q3 q4 => ⟨o, ho, .inr (.inr (.inr (.inr (.inr (.inr ⟨y, L, L', N, by rw [q1]; exact hg, hfl, hk, by rw [q2]; exact hL, by rw [q1]; exact he, by rw [q3 _ (by omega), h1, q1], by rw [q4 _ (by omega), h2, q2], rfl⟩)))))⟩⟩

end Go.AM
end

section
namespace Go.AM
open Go

theorem Before.lt {all : Array Oper} (hc : ∀ (i : Nat) o e, all[i]? = some o → e ∈ o.after → Region.binds .any e = true → e.on < i) {k i : Nat} (h : Before all k i) : k < i := by
  induction h with
  | edge i o e ho he hb => exact hc i o e ho he hb
  | trans i j k _ _ h1 h2 => exact Nat.lt_trans h1 h2

theorem exists_max {p : Nat → Prop} (n : Nat) (h : ∃ k, k < n ∧ p k) : ∃ k, k < n ∧ p k ∧ ∀ k', k' < n → k < k' → ¬ p k' := by
  induction n with
  | zero => obtain ⟨k, hk, _⟩ := h; omega
  | succ n ih =>
    by_cases hn : p n
    · exact ⟨n, by omega, hn, fun k' h1 h2 => by omega⟩
    · obtain ⟨k, hk, hp⟩ := h
      have hkn : k < n := by
        rcases Nat.lt_or_ge k n with h1 | h1
        · exact h1
        · have : k = n := by omega
          subst this
          exact absurd hp hn
      obtain ⟨m, h1, h2, h3⟩ := ih ⟨k, hkn, hp⟩
      refine ⟨m, by omega, h2, fun k' h4 h5 => ?_⟩
      by_cases e : k' = n
      · subst e; exact hn
      · exact h3 k' (by omega) h5

theorem chk_ok {all : Array Oper} (hc : chk all (preds all) = true) :
    (∀ (i : Nat) o e, all[i]? = some o → e ∈ o.after → Region.binds .any e = true → e.on < i) ∧
    (∀ (i : Nat) o (k : Nat) ok d, all[i]? = some o → all[k]? = some ok → ok.dst = some d → k ≠ i → o.dst ≠ some d ∧ (d ∈ o.looksAt all → Before all k i ∨ Before all i k)) := by
  unfold chk at hc
  rw [List.all_eq_true] at hc
  constructor
  · intro i o e ho he hb
    have hi : i < all.size := (Array.getElem?_eq_some_iff.1 ho).1
    have h1 := hc i (List.mem_range.2 hi)
    rw [ho] at h1
    simp only [Bool.and_eq_true] at h1
    have h2 := List.all_eq_true.1 h1.1 e (by simpa using he)
    simpa [hb] using h2
  · intro i o k ok d ho hk hd hne
    have hi : i < all.size := (Array.getElem?_eq_some_iff.1 ho).1
    have hkl : k < all.size := (Array.getElem?_eq_some_iff.1 hk).1
    have h1 := hc i (List.mem_range.2 hi)
    rw [ho] at h1
    simp only [Bool.and_eq_true] at h1
    have h2 := List.all_eq_true.1 h1.2 k (List.mem_range.2 hkl)
    rw [hk] at h2
    simp only [Option.bind_some, hd] at h2
    have hne' : (k == i) = false := by simpa using hne
    rw [hne', Bool.false_or, Bool.and_eq_true] at h2
    refine ⟨by simpa using h2.1, fun hm => ?_⟩
    have h3 := h2.2
    have hm' : (o.looksAt all).contains d = true := by simpa using hm
    rw [hm', Bool.not_true, Bool.false_or, Bool.or_eq_true] at h3
    exact h3.imp (fun h => pre_ok (by simpa [pre] using h)) fun h => pre_ok (by simpa [pre] using h)

section
variable {fl : Bool} {P : Program} {n0 : Nat} {all : Array Oper} {nx : Nat} {tm : Nat → List AVal} {hp : Nat → Heap} {tc : Nat → Bool × List Nat}

/-- What an operation may write. -/
def aff (nx : Nat) (tc : Nat → Bool × List Nat) (i id : Nat) : Prop := id = nx + i ∨ ((tc i).1 = true ∧ id ∈ (tc i).2)

theorem lk_hset' {h : Heap} {id j : Nat} {o : Ob} (hl : (lk h id).isSome = true) : lk (hset h id o) j = if j = id then some o else lk h j := by
  induction h with
  | nil => simp [lk] at hl
  | cons a h ih =>
    obtain ⟨i, q⟩ := a
    simp only [hset]
    by_cases hi : i = id
    · subst hi
      simp only [if_true, lk]
      by_cases hj : i = j
      · subst hj
        simp
      · have : ¬ j = i := fun e => hj e.symm
        simp [hj, this]
    · rw [if_neg hi]
      simp only [lk, if_neg hi] at hl ⊢
      by_cases hj : i = j
      · subst hj
        simp [hi]
      · rw [if_neg hj, if_neg hj, ih hl]

theorem lk_hset_ne {i j : Nat} {o : Ob} (hne : ¬ j = i) : ∀ h : Heap, lk (hset h i o) j = lk h j
  | [] => rfl
  | (k, q) :: h => by
    simp only [hset]
    split
    · rename_i e
      subst e
      simp only [lk]
      rw [if_neg fun e => hne e.symm, if_neg fun e => hne e.symm]
    · simp only [lk]
      rw [lk_hset_ne hne h]

theorem lk_upds_ne {id : Nat} : ∀ (L : Heap) (h : Heap), (∀ e, e ∈ L → e.1 ≠ id) → lk (upds h L) id = lk h id
  | [], h, _ => rfl
  | (i, o) :: L, h, hn => by
    simp only [upds]
    rw [lk_upds_ne L _ fun e he => hn e (List.mem_cons_of_mem _ he), lk_hset_ne (fun e => hn (i, o) (List.mem_cons_self ..) e.symm)]

theorem lk_hset_isSome {i j : Nat} {o : Ob} {h : Heap} (hj : (lk h j).isSome = true) (hi : (lk h i).isSome = true) : (lk (hset h i o) j).isSome = true := by
  rw [lk_hset' hi]
  split
  · rfl
  · exact hj

theorem lk_upds_same {id : Nat} : ∀ (L : Heap) (h h' : Heap), (∀ e, e ∈ L → (lk h e.1).isSome = true) → (∀ e, e ∈ L → (lk h' e.1).isSome = true) → lk h id = lk h' id → lk (upds h L) id = lk (upds h' L) id
  | [], h, h', _, _, e => e
  | (i, o) :: L, h, h', h1, h2, e => by
    simp only [upds]
    have hi := h1 (i, o) (List.mem_cons_self ..)
    have hi' := h2 (i, o) (List.mem_cons_self ..)
    refine lk_upds_same L _ _ (fun q hq => lk_hset_isSome (h1 q (List.mem_cons_of_mem _ hq)) hi) (fun q hq => lk_hset_isSome (h2 q (List.mem_cons_of_mem _ hq)) hi') ?_
    rw [lk_hset' hi, lk_hset' hi', e]

theorem lk_addF {f id : Nat} {N : Option (Nat → Ob)} {h : Heap} (hn : id ≠ f) : lk (addF f N h) id = lk h id := by
  cases N with
  | none => rfl
  | some ob => simp only [addF]; rw [lk_cons, if_neg hn]

theorem lk_addF_same {f id : Nat} {N : Option (Nat → Ob)} {h h' : Heap} (e : lk h id = lk h' id) : lk (addF f N h) id = lk (addF f N h') id := by
  cases N with
  | none => exact e
  | some ob => simp only [addF]; rw [lk_cons, lk_cons, e]

theorem keys_some {L L' : Heap} {h : Heap} (hk : ∀ e, e ∈ L' → e.1 ∈ L.map (·.1)) (hL : ∀ e, e ∈ L → lk h e.1 = some e.2) (e : Nat × Ob) (he : e ∈ L') : (lk h e.1).isSome = true := by
  obtain ⟨q, hq, e1⟩ := List.mem_map.1 (hk e he)
  rw [← e1, hL q hq]
  rfl

theorem PS.keeps {i id : Nat} (h : PS fl P all nx tm hp tc i) (hn : ¬ aff nx tc i id) : lk (hp (i + 1)) id = lk (hp i) id := by
  obtain ⟨o, _, h | ⟨y, _, hs, _, ht⟩ | ⟨y, _, _, ha, _, ht, hs, _, _⟩ | ⟨c, g, args, args', r, L, _, _, _, _, _, _, _, _, he, _⟩ | ⟨c, g, args, args', x, ob, _, _, _, _, _, _, _, he, _⟩ | ⟨y, _, _, _, he, _⟩ | ⟨y, L, L', N, _, hf, hk, hL, _, _, he, ht⟩⟩ := h
  case inr.inr.inr.inr.inl => rw [he, lk_cons, if_neg fun e => hn (.inl e)]
  case inr.inr.inr.inr.inr.inl => rw [he]
  case inr.inr.inr.inr.inr.inr => rw [he, lk_addF (fun e => hn (.inl e)), lk_upds_ne _ _ fun e h1 h2 => hn (.inr (by rw [ht]; exact ⟨rfl, h2 ▸ hk e h1⟩))]
  case inr.inr.inl => rw [(astep_adr (g := hp i) ha ht hs fun _ _ => rfl).1]
  · rw [h.2.2.1]
  · by_cases hw : isWriter o = true
    · obtain ⟨h2', h3, h4⟩ := astep_loc (h2 := hp i) (fun _ _ => rfl) hs
      exact h4.keep1 id (fun e => hn (.inl e)) (fun hm => hn (.inr (by rw [ht]; exact ⟨hw, hm⟩)))
    · exact astep_keeps (by simpa using hw) hs id (fun e => hn (.inl e))
  · rw [he]

theorem PS.slot {i t : Nat} {o : Oper} (h : PS fl P all nx tm hp tc i) (ho : all[i]? = some o) (hn : o.dst ≠ some t) : (tm (i + 1))[t]? = (tm i)[t]? := by
  have put : ∀ x, (putT (tm i) o.dst x)[t]? = (tm i)[t]? := fun x => by
    cases hd : o.dst with
    | none => rfl
    | some d =>
      have : d ≠ t := fun e => hn (by rw [hd, e])
      simp [putT, List.getElem?_set_ne this]
  obtain ⟨o', ho', h⟩ := h
  rw [ho] at ho'
  injection ho' with ho'
  subst ho'
  rcases h with h | ⟨y, _, _, h, _⟩ | ⟨y, _, _, _, _, _, _, h, _⟩ | ⟨c, g, args, args', r, L, _, _, _, _, _, _, _, h, _⟩ | ⟨c, g, args, args', x, ob, _, _, _, _, _, _, h, _⟩ | ⟨y, _, _, h, _⟩ | ⟨y, L, L', N, _, _, _, _, _, h, _⟩
  · rw [h.2.1, put]
  · rw [h, put]
  · rw [h, put]
  · rw [h, put]
  · rw [h, put]
  · rw [h, put]
  · rw [h, put]

theorem PS.len {i : Nat} (h : PS fl P all nx tm hp tc i) : (tm (i + 1)).length = (tm i).length := by
  have put : ∀ (o : Oper) x, (putT (tm i) o.dst x).length = (tm i).length := fun o x => by
    cases o.dst <;> simp [putT]
  obtain ⟨o, _, h | ⟨y, _, _, h, _⟩ | ⟨y, _, _, _, _, _, _, h, _⟩ | ⟨c, g, args, args', r, L, _, _, _, _, _, _, _, h, _⟩ | ⟨c, g, args, args', x, ob, _, _, _, _, _, _, h, _⟩ | ⟨y, _, _, h, _⟩ | ⟨y, L, L', N, _, _, _, _, _, h, _⟩⟩ := h
  · rw [h.2.1, put]
  · rw [h, put]
  · rw [h, put]
  · rw [h, put]
  · rw [h, put]
  · rw [h, put]
  · rw [h, put]

theorem PS.shape {i id : Nat} (h : PS fl P all nx tm hp tc i) (hfl : fl = true) (hna : all.all notApp = true) (hid : id < nx) : shpO (lk (hp (i + 1)) id) = shpO (lk (hp i) id) := by
  obtain ⟨o, ho, h | ⟨y, _, hs, _, ht⟩ | ⟨y, _, _, ha, _, ht, hs, _, _⟩ | ⟨c, g, args, args', r, L, _, _, _, _, _, _, _, _, he, _⟩ | ⟨c, g, args, args', x, ob, _, _, _, _, _, _, _, he, _⟩ | ⟨y, _, _, _, he, _⟩ | ⟨y, L, L', N, _, hf, hk, hL, _, _, he, ht⟩⟩ := h
  · rw [h.2.2.1]
  · have hi : i < all.size := (Array.getElem?_eq_some_iff.1 ho).1
    have e : all[i] = o := (Array.getElem?_eq_some_iff.1 ho).2
    have hn : notApp o = true := by
      have := Array.all_eq_true.1 hna i hi
      rw [e] at this
      exact this
    exact astep_shape hn hs id (by omega)
  · rw [(astep_adr (g := hp i) ha ht hs fun _ _ => rfl).1]
  · rw [he]
  · rw [he, lk_cons, if_neg (by omega)]
  · rw [he]
  · rw [hfl] at hf; cases hf

theorem chainS {x id : Nat} (hps : ∀ j, j < all.size → PS fl P all nx tm hp tc j) (hfl : fl = true) (hna : all.all notApp = true) (hid : id < nx) (hx : x ≤ all.size) : shpO (lk (hp x) id) = shpO (lk (hp 0) id) := by
  induction x with
  | zero => rfl
  | succ x ih => rw [(hps x (by omega)).shape hfl hna hid, ih (by omega)]

theorem chainH {x y id : Nat} (hps : ∀ j, j < all.size → PS fl P all nx tm hp tc j) (hy : y ≤ all.size) (hxy : x ≤ y) (hn : ∀ k, x ≤ k → k < y → ¬ aff nx tc k id) : lk (hp y) id = lk (hp x) id := by
  induction y with
  | zero => have : x = 0 := by omega
            subst this; rfl
  | succ y ih =>
    by_cases e : x = y + 1
    · subst e; rfl
    · rw [(hps y (by omega)).keeps (hn y (by omega) (by omega)), ih (by omega) (by omega) fun k h1 h2 => hn k h1 (by omega)]

theorem chainT {x y t : Nat} (hps : ∀ j, j < all.size → PS fl P all nx tm hp tc j) (hy : y ≤ all.size) (hxy : x ≤ y) (hn : ∀ (k : Nat) o, x ≤ k → k < y → all[k]? = some o → o.dst ≠ some t) : (tm y)[t]? = (tm x)[t]? := by
  induction y with
  | zero => have : x = 0 := by omega
            subst this; rfl
  | succ y ih =>
    by_cases e : x = y + 1
    · subst e; rfl
    · have ho : all[y]? = some all[y] := Array.getElem?_eq_getElem (by omega)
      rw [(hps y (by omega)).slot ho (hn y _ (by omega) (by omega) ho), ih (by omega) (by omega) fun k o h1 h2 => hn k o h1 (by omega)]

theorem lenT {x : Nat} (hps : ∀ j, j < all.size → PS fl P all nx tm hp tc j) (hx : x ≤ all.size) : (tm x).length = (tm 0).length := by
  induction x with
  | zero => rfl
  | succ x ih => rw [(hps x (by omega)).len, ih (by omega)]

/-- The state, when some of the operations have been done. -/
structure SD (all : Array Oper) (nx : Nat) (tm : Nat → List AVal) (hp : Nat → Heap) (tc : Nat → Bool × List Nat) (D : Nat → Prop) (tmD : List AVal) (hD : Heap) : Prop where
  len : tmD.length = (tm 0).length
  t1 : ∀ t, (∀ (k : Nat) o, k < all.size → D k → all[k]? = some o → o.dst ≠ some t) → tmD[t]? = (tm 0)[t]?
  t2 : ∀ (t k : Nat) o, k < all.size → D k → all[k]? = some o → o.dst = some t → tmD[t]? = (tm all.size)[t]?
  h1 : ∀ id, (∀ k, k < all.size → D k → ¬ aff nx tc k id) → lk hD id = lk (hp 0) id
  h2 : ∀ id k, k < all.size → D k → aff nx tc k id → (∀ k', k' < all.size → D k' → k < k' → ¬ aff nx tc k' id) → lk hD id = lk (hp (k + 1)) id

structure Plan (fl : Bool) (P : Program) (all : Array Oper) (nx : Nat) (tm : Nat → List AVal) (hp : Nat → Heap) (tc : Nat → Bool × List Nat) : Prop where
  ps : ∀ j, j < all.size → PS fl P all nx tm hp tc j
  c1 : ∀ (i : Nat) o e, all[i]? = some o → e ∈ o.after → Region.binds .any e = true → e.on < i
  c2 : ∀ (i : Nat) o (k : Nat) ok d, all[i]? = some o → all[k]? = some ok → ok.dst = some d → k ≠ i → o.dst ≠ some d ∧ (d ∈ o.looksAt all → Before all k i ∨ Before all i k)
  ind : ∀ i k, i < all.size → k < all.size → i ≠ k → Before all k i ∨ Before all i k ∨ (((tc i).1 = false ∨ ∀ id, id ∈ (tc i).2 → id ∉ (tc k).2) ∧ nx + i ∉ (tc k).2)

theorem Plan.clash (pl : Plan fl P all nx tm hp tc) {i k id : Nat} (hi : i < all.size) (hk : k < all.size) (hne : i ≠ k) (h1 : aff nx tc i id) (h2 : aff nx tc k id ∨ id ∈ (tc k).2) : Before all i k ∨ Before all k i := by
  rcases pl.ind i k hi hk hne with h | h | ⟨ha, hb⟩
  · exact .inr h
  · exact .inl h
  rcases pl.ind k i hk hi (fun e => hne e.symm) with h | h | ⟨hc, hd⟩
  · exact .inl h
  · exact .inr h
  exfalso
  rcases h1 with h1 | ⟨h1, h1'⟩
  · subst h1
    rcases h2 with (h2 | ⟨_, h2⟩) | h2
    · omega
    · exact hb h2
    · exact hb h2
  · rcases h2 with (h2 | ⟨_, h2⟩) | h2
    · subst h2; exact hd h1'
    · rcases ha with ha | ha
      · rw [h1] at ha; cases ha
      · exact ha id h1' h2
    · rcases ha with ha | ha
      · rw [h1] at ha; cases ha
      · exact ha id h1' h2

variable {D : Nat → Prop} {tmD : List AVal} {hD : Heap}

/-- What an operation that may be done now looks at is as in the order of the text. -/
theorem SD.heapAt (pl : Plan fl P all nx tm hp tc) (sd : SD all nx tm hp tc D tmD hD) (down : ∀ k i, Before all k i → D i → D k) {j : Nat} (hj : j < all.size) (hjD : ¬ D j) (hr : ∀ k, Before all k j → D k) {id : Nat}
    (hid : aff nx tc j id ∨ id ∈ (tc j).2) : lk hD id = lk (hp j) id := by
  have ord : ∀ k, k < all.size → k ≠ j → aff nx tc k id → Before all k j ∨ Before all j k := fun k hk hne ha => pl.clash hk hj hne ha hid
  by_cases hex : ∃ k, k < all.size ∧ (D k ∧ aff nx tc k id)
  · obtain ⟨k, hk, ⟨hDk, hak⟩, hmax⟩ := exists_max all.size hex
    have hkj : k ≠ j := fun e => hjD (e ▸ hDk)
    have hb : Before all k j := by
      rcases ord k hk hkj hak with h | h
      · exact h
      · exact absurd (down j k h hDk) hjD
    have hlt := hb.lt pl.c1
    rw [sd.h2 id k hk hDk hak fun k' h1 h2 h3 h4 => hmax k' h1 h3 ⟨h2, h4⟩]
    refine (chainH pl.ps (by omega) (by omega) fun k' h1 h2 h3 => ?_).symm
    rcases ord k' (by omega) (by omega) h3 with h | h
    · exact hmax k' (by omega) (by omega) ⟨hr k' h, h3⟩
    · have := h.lt pl.c1; omega
  · rw [sd.h1 id fun k h1 h2 h3 => hex ⟨k, h1, h2, h3⟩]
    refine (chainH pl.ps (by omega) (by omega) fun k' h1 h2 h3 => ?_).symm
    rcases ord k' (by omega) (by omega) h3 with h | h
    · exact hex ⟨k', by omega, hr k' h, h3⟩
    · have := h.lt pl.c1; omega

theorem SD.shapeAt (pl : Plan fl P all nx tm hp tc) (sd : SD all nx tm hp tc D tmD hD) (hfl : fl = true) (hna : all.all notApp = true) {j : Nat} (hj : j < all.size) {id : Nat} (hid : id < nx) : shpO (lk hD id) = shpO (lk (hp j) id) := by
  rw [chainS pl.ps hfl hna hid (by omega)]
  by_cases hex : ∃ k, k < all.size ∧ (D k ∧ aff nx tc k id)
  · obtain ⟨k, hk, ⟨hDk, hak⟩, hmax⟩ := exists_max all.size hex
    rw [sd.h2 id k hk hDk hak fun k' h1 h2 h3 h4 => hmax k' h1 h3 ⟨h2, h4⟩, chainS pl.ps hfl hna hid (by omega)]
  · rw [sd.h1 id fun k h1 h2 h3 => hex ⟨k, h1, h2, h3⟩]

theorem SD.slotAt (pl : Plan fl P all nx tm hp tc) (sd : SD all nx tm hp tc D tmD hD) (down : ∀ k i, Before all k i → D i → D k) {j : Nat} (hj : j < all.size) (hjD : ¬ D j) (hr : ∀ k, Before all k j → D k) {o : Oper} (ho : all[j]? = some o) {t : Nat} (ht : t ∈ o.looksAt all) :
    tmD[t]? = (tm j)[t]? := by
  have uniq : ∀ (k k' : Nat) ok ok', all[k]? = some ok → all[k']? = some ok' → ok.dst = some t → ok'.dst = some t → k = k' := fun k k' ok ok' h1 h2 h3 h4 => by
    rcases Nat.decEq k k' with h | h
    · exact absurd h4 (pl.c2 k' ok' k ok t h2 h1 h3 h).1
    · exact h
  by_cases hex : ∃ (k : Nat) (ok : Oper), all[k]? = some ok ∧ ok.dst = some t
  · obtain ⟨k, ok, hk, hd⟩ := hex
    have hks : k < all.size := (Array.getElem?_eq_some_iff.1 hk).1
    by_cases e : k = j
    · subst e
      rw [sd.t1 t fun k' o' h1 h2 h3 h4 => hjD (uniq k' k o' ok h3 hk h4 hd ▸ h2)]
      exact (chainT pl.ps (by omega) (by omega) fun k' o' h1 h2 h3 h4 => by have := uniq k' k o' ok h3 hk h4 hd; omega).symm
    · rcases (pl.c2 j o k ok t ho hk hd e).2 ht with hb | hb
      case inr =>
        have hlt := hb.lt pl.c1
        rw [sd.t1 t fun k' o' h1 h2 h3 h4 => hjD (down j k hb (uniq k' k o' ok h3 hk h4 hd ▸ h2))]
        exact (chainT pl.ps (by omega) (by omega) fun k' o' h1 h2 h3 h4 => by have := uniq k' k o' ok h3 hk h4 hd; omega).symm
      have hlt := hb.lt pl.c1
      rw [sd.t2 t k ok hks (hr k hb) hk hd, chainT (x := k + 1) pl.ps (Nat.le_refl _) (by omega) fun k' o' h1 h2 h3 h4 => by have := uniq k' k o' ok h3 hk h4 hd; omega]
      exact (chainT pl.ps (by omega) (by omega) fun k' o' h1 h2 h3 h4 => by have := uniq k' k o' ok h3 hk h4 hd; omega).symm
  · rw [sd.t1 t fun k' o' h1 h2 h3 h4 => hex ⟨k', o', h3, h4⟩]
    exact (chainT pl.ps (by omega) (by omega) fun k' o' h1 h2 h3 h4 => hex ⟨k', o', h3, h4⟩).symm

/-- One more has been done. -/
theorem SD.next (pl : Plan fl P all nx tm hp tc) (sd : SD all nx tm hp tc D tmD hD) (down : ∀ k i, Before all k i → D i → D k) {j : Nat} (hj : j < all.size) (hjD : ¬ D j) (hr : ∀ k, Before all k j → D k) {o : Oper} (ho : all[j]? = some o)
    {y : AVal} {hD' : Heap} (hty : tm (j + 1) = putT (tm j) o.dst y) (hsame : ∀ id, lk (hp j) id = lk hD id → lk (hp (j + 1)) id = lk hD' id) (hkeep : ∀ id, ¬ aff nx tc j id → lk hD' id = lk hD id) :
    SD all nx tm hp tc (fun k => D k ∨ k = j) (putT tmD o.dst y) hD' := by
  have uniq : ∀ (k k' : Nat) ok ok' t, all[k]? = some ok → all[k']? = some ok' → ok.dst = some t → ok'.dst = some t → k = k' := fun k k' ok ok' t h1 h2 h3 h4 => by
    rcases Nat.decEq k k' with h | h
    · exact absurd h4 (pl.c2 k' ok' k ok t h2 h1 h3 h).1
    · exact h
  refine ⟨?_, fun t ht => ?_, fun t k ok hk hDk hok hd => ?_, fun id hid => ?_, fun id k hk hDk hak hmax => ?_⟩
  · rw [← sd.len]; cases o.dst <;> simp [putT]
  · have h1 := ht j o hj (.inr rfl) ho
    rw [← sd.t1 t fun k o' h2 h3 h4 => ht k o' h2 (.inl h3) h4]
    cases hd : o.dst with
    | none => rfl
    | some d =>
      have : d ≠ t := fun e => h1 (by rw [hd, e])
      simp [putT, List.getElem?_set_ne this]
  · by_cases e : k = j
    · subst e
      rw [ho] at hok
      injection hok with hok
      subst hok
      rw [chainT (x := k + 1) pl.ps (Nat.le_refl _) (by omega) fun k' o' h1 h2 h3 h4 => by have := uniq k' k o' o t h3 ho h4 hd; omega, hty, hd]
      have hl : (tm k).length = (tm 0).length := lenT pl.ps (by omega)
      simp only [putT, List.getElem?_set, sd.len, hl, if_true]
    · have hDk' : D k := hDk.resolve_right e
      rw [← sd.t2 t k ok hk hDk' hok hd]
      cases hd' : o.dst with
      | none => rfl
      | some d =>
        have : d ≠ t := fun e' => e (uniq k j ok o t hok ho hd (by rw [hd', e']))
        simp [putT, List.getElem?_set_ne this]
  · rw [hkeep id (hid j hj (.inr rfl))]
    exact sd.h1 id fun k h1 h2 => hid k h1 (.inl h2)
  · by_cases e : k = j
    · subst e
      exact (hsame id (sd.heapAt pl down hj hjD hr (.inl hak)).symm).symm
    · have hDk' : D k := hDk.resolve_right e
      by_cases haj : aff nx tc j id
      · exfalso
        have hnk : ¬ k < j := fun h => hmax j hj (.inr rfl) h haj
        rcases pl.clash hj hk (fun h => e h.symm) haj (.inl hak) with h | h
        · exact hjD (down j k h hDk')
        · exact hnk (h.lt pl.c1)
      · rw [hkeep id haj]
        exact sd.h2 id k hk hDk' hak fun k' h1 h2 h3 => hmax k' h1 (.inl h2) h3

theorem SD.fin (pl : Plan fl P all nx tm hp tc) (sd : SD all nx tm hp tc D tmD hD) (hall : ∀ k, k < all.size → D k) : tmD = tm all.size ∧ ∀ id, lk hD id = lk (hp all.size) id := by
  constructor
  · apply List.ext_getElem?
    intro t
    by_cases hex : ∃ (k : Nat) (ok : Oper), all[k]? = some ok ∧ ok.dst = some t
    · obtain ⟨k, ok, hk, hd⟩ := hex
      have hks : k < all.size := (Array.getElem?_eq_some_iff.1 hk).1
      exact sd.t2 t k ok hks (hall k hks) hk hd
    · rw [sd.t1 t fun k' o' h1 h2 h3 h4 => hex ⟨k', o', h3, h4⟩]
      exact (chainT pl.ps (Nat.le_refl _) (by omega) fun k' o' h1 h2 h3 h4 => hex ⟨k', o', h3, h4⟩).symm
  · intro id
    by_cases hex : ∃ k, k < all.size ∧ aff nx tc k id
    · obtain ⟨k, hk, hak, hmax⟩ := exists_max all.size hex
      rw [sd.h2 id k hk (hall k hk) hak fun k' h1 _ h3 => hmax k' h1 h3]
      exact (chainH pl.ps (Nat.le_refl _) (by omega) fun k' h1 h2 => hmax k' (by omega) (by omega)).symm
    · rw [sd.h1 id fun k h1 _ h3 => hex ⟨k, h1, h3⟩]
      exact (chainH pl.ps (Nat.le_refl _) (by omega) fun k' h1 h2 h3 => hex ⟨k', by omega, h3⟩).symm

end
end Go.AM
end

section
set_option linter.unusedSimpArgs false
namespace Go.AM
open Go

section
variable {fl : Bool} {P : Program} {n0 : Nat} {all : Array Oper} {nx : Nat} {tm : Nat → List AVal} {hp : Nat → Heap} {tc : Nat → Bool × List Nat}

/-- The objects that are there, when some of the operations have been done. -/
def pD (all : Array Oper) (nx : Nat) (D : Nat → Prop) : Nat → Prop := fun id => id < nx ∨ ∃ k, k < all.size ∧ D k ∧ id = nx + k

theorem ev_agree {all : Array Oper} {o : Oper} {t1 t2 : List AVal} (h : ∀ t, t ∈ o.looksAt all → t1[t]? = t2[t]?) (x : Operand) (hx : x ∈ o.op.operands) : ev t1 x = ev t2 x := by
  cases x with
  | tmp t =>
    simp only [ev, List.getD_eq_getElem?_getD]
    rw [h t (by unfold Oper.looksAt; exact List.mem_append_left _ (List.mem_filterMap.2 ⟨.tmp t, by simpa using hx, rfl⟩))]
  | const v => rfl
  | global g => rfl
  | func f => rfl

theorem guard_agree {all : Array Oper} {o : Oper} {t1 t2 : List AVal} (h : ∀ t, t ∈ o.looksAt all → t1[t]? = t2[t]?) : guardA all t1 o = guardA all t2 o := by
  unfold guardA
  cases hg : o.guard with
  | none => rfl
  | some q =>
    obtain ⟨j, want⟩ := q
    simp only []
    cases hd : (all[j]?).bind (·.dst) with
    | none => rfl
    | some d =>
      simp only [List.getD_eq_getElem?_getD]
      rw [h d (by unfold Oper.looksAt; refine List.mem_append_right _ ?_; rw [hg]; simp [hd])]

theorem target_agree {o : Oper} {c : Call} (ho : o.op = .call c) {t1 t2 : List AVal} (h : ∀ x, x ∈ o.op.operands → ev t1 x = ev t2 x) : target t1 c = target t2 c := by
  unfold target
  cases hc : c.callee with
  | value f =>
    simp only []
    have hf : ev t1 f = ev t2 f := h f (by rw [ho]; simp [Op.operands, Call.operands, hc])
    have ha : evs t1 c.args = evs t2 c.args := List.map_congr_left fun x hx => h x (by rw [ho]; simp [Op.operands, Call.operands]; exact .inr (by simpa using hx))
    rw [hf, ha]
  | invoke r m => rfl
  | builtin b => rfl

theorem Frz.loc {h1 h2 : Heap} {L : List Nat} (hl : ∀ id, id ∈ L → lk h1 id = lk h2 id) {x y : AVal} (f : Frz h1 (· ∈ L) x y) : Frz h2 (· ∈ L) x y := by
  induction f with
  | refl x => exact .refl x
  | ref id sz base len ex c esz rows rows' lim hS hk hsz hlen hlim hrow hrel ih => exact .ref id sz base len ex c esz rows rows' lim hS (by rw [← hl id hS]; exact hk) hsz hlen hlim hrow ih
  | ptr id sz row col esz rows r cells hS hk hsz hr hlen hrel ih => exact .ptr id sz row col esz rows r cells hS (by rw [← hl id hS]; exact hk) hsz hr hlen ih
  | agg xs ys hlen hrel ih => exact .agg xs ys hlen ih
  | tuple xs ys hlen hrel ih => exact .tuple xs ys hlen ih
  | func fn xs ys us vs hlen hlen' hrel hrel' ih ih' => exact .func fn xs ys us vs hlen hlen' ih ih'
  | iface t x y hrel ih => exact .iface t x y ih
  | sl rows rows' lim hlen hrow hrel ih => exact .sl rows rows' lim hlen hrow ih

theorem Frz.none {h : Heap} {x y : AVal} (f : Frz h (· ∈ ([] : List Nat)) x y) (h2 : Heap) : Frz h2 (fun _ => False) x y := by
  induction f with
  | refl x => exact .refl x
  | ref id sz base len ex c esz rows rows' lim hS hk hsz hlen hlim hrow hrel ih => simp at hS
  | ptr id sz row col esz rows r cells hS hk hsz hr hlen hrel ih => simp at hS
  | agg xs ys hlen hrel ih => exact .agg xs ys hlen ih
  | tuple xs ys hlen hrel ih => exact .tuple xs ys hlen ih
  | func fn xs ys us vs hlen hlen' hrel hrel' ih ih' => exact .func fn xs ys us vs hlen hlen' ih ih'
  | iface t x y hrel ih => exact .iface t x y ih
  | sl rows rows' lim hlen hrow hrel ih => exact .sl rows rows' lim hlen hrow ih

theorem Frz.widen {h : Heap} {S S' : Nat → Prop} (hS : ∀ id, S id → S' id) {x y : AVal} (f : Frz h S x y) : Frz h S' x y := by
  induction f with
  | refl x => exact .refl x
  | ref id sz base len ex c esz rows rows' lim hs hk hsz hlen hlim hrow hrel ih => exact .ref id sz base len ex c esz rows rows' lim (hS id hs) hk hsz hlen hlim hrow ih
  | ptr id sz row col esz rows r cells hs hk hsz hr hlen hrel ih => exact .ptr id sz row col esz rows r cells (hS id hs) hk hsz hr hlen ih
  | agg xs ys hlen hrel ih => exact .agg xs ys hlen ih
  | tuple xs ys hlen hrel ih => exact .tuple xs ys hlen ih
  | func fn xs ys us vs hlen hlen' hrel hrel' ih ih' => exact .func fn xs ys us vs hlen hlen' ih ih'
  | iface t x y hrel ih => exact .iface t x y ih
  | sl rows rows' lim hlen hrow hrel ih => exact .sl rows rows' lim hlen hrow ih

/-- A call of the machine, of a function that only reads. -/
theorem call_wp {ext : Nat → Prop} {β : Nat → Option Nat} {p : Nat → Prop} {tmps : List AVal} {h : Heap} {a : Act} {w : World} (i : SInP n0 ext β p tmps h a w) {o : Oper} {c : Call} {g : FuncId} {args args' : List AVal} {r : AVal} {L : List Nat} (ho : o.op = .call c)
    (ht : target tmps c = some (g, args)) (hp : PCall P g args' (· = r)) (hlen : args'.length = args.length) (hf : ∀ (k : Nat) x y, args[k]? = some x → args'[k]? = some y → Frz h (· ∈ L) x y) (hflat : Flat r ∨ L = [])
    {K : Act → World → Prop} {Q : Exit → Act → World → Prop} (hk : ∀ v w', HIn ext β p h w' → VRel (cx ext β h w') r v → Fz r → Evo (owns β h) w (owns β h) w' → (∀ q, Step q (cx ext β h w) (cx ext β h w')) → K (a.put o.dst v) w') : o.wp P a w K Q := by
  obtain ⟨vs, hrun, hsz, hrel⟩ := target_ok i ho ht hp.callable
  unfold Oper.wp
  rw [hrun, Oper.upon_enter]
  have hno : ∀ b, ¬ owns (fun _ => none) [] b := fun b ⟨_, _, h1, _⟩ => by simp [lk] at h1
  rcases hflat with hflat | hL
  · have hargs : ∀ (k : Nat) y v, args'[k]? = some y → vs[k]? = some v → VRel (cx ext (fun _ => none) [] w) y v := fun k y v hy hv => by
      have hlt : k < args.length := by rw [← hlen]; exact (List.getElem?_eq_some_iff.1 hy).1
      exact Frz.rel i.heap (fun b hb => .inl hb) (fun id ob b hS hl hb hx => (i.heap.ext b hx).2 ⟨id, ob, hl, hb⟩) (hf k args[k] y (List.getElem?_eq_getElem hlt) hy) v (hrel k _ v (List.getElem?_eq_getElem hlt) hv)
    refine (hp.run ext w vs (fun b hb => (i.heap.ext b hb).1) (by rw [hsz, hlen]) hargs).mono ?_
    rintro e w' ⟨v, r', rfl, rfl, hfz, hv, hev⟩
    obtain ⟨k1, k2, k3⟩ := i.heap.evo hev
    exact hk v w' k1 (hflat _ _ v hv) hfz k2 k3
  · subst hL
    have hargs : ∀ (k : Nat) y v, args'[k]? = some y → vs[k]? = some v → VRel (cx (fun b => ext b ∨ owns β h b) (fun _ => none) [] w) y v := fun k y v hy hv => by
      have hlt : k < args.length := by rw [← hlen]; exact (List.getElem?_eq_some_iff.1 hy).1
      exact Frz.rel i.heap (fun b hb => hb) (fun id ob b hS hl hb hx => hS.elim) ((hf k args[k] y (List.getElem?_eq_getElem hlt) hy).none h) v (hrel k _ v (List.getElem?_eq_getElem hlt) hv)
    refine (hp.run (fun b => ext b ∨ owns β h b) w vs (fun b hb => hb.elim (fun h => (i.heap.ext b h).1) (fun h => i.heap.lt h)) (by rw [hsz, hlen]) hargs).mono ?_
    rintro e w' ⟨v, r', rfl, rfl, hfz, hv, hev⟩
    obtain ⟨k1, k2, k3⟩ := i.heap.evo hev
    have st : Step (fun _ => False) (cx (fun b => ext b ∨ owns β h b) (fun _ => none) [] w') (cx ext β h w') :=
      ⟨fun b o v h1 h4 => ⟨fun h3 => h1 (Or.inl h3), h4⟩, fun _ _ h => h, fun _ h => h.elim, fun _ h => h.elim⟩
    exact hk v w' k1 (hv.step st hfz) hfz k2 k3

/-- A call of the machine, of a function that hands back a new object. -/
theorem new_wp {ext : Nat → Prop} {β : Nat → Option Nat} {p : Nat → Prop} {tmps : List AVal} {h : Heap} {a : Act} {w : World} {fresh : Nat} (i : SInP n0 ext β p tmps h a w) (hpf : ¬ p fresh) {o : Oper} {c : Call} {g : FuncId} {args args' : List AVal} {x : Nat → AVal} {ob : Ob}
    (ho : o.op = .call c) (ht : target tmps c = some (g, args)) (hp : PNew P g args' x ob) (hlen : args'.length = args.length) (hf : ∀ (k : Nat) x y, args[k]? = some x → args'[k]? = some y → Frz h (· ∈ ([] : List Nat)) x y)
    {K : Act → World → Prop} {Q : Exit → Act → World → Prop} (hk : ∀ v w' β', HIn ext β' (fun j => p j ∨ j = fresh) ((fresh, ob) :: h) w' → VRel (cx ext β' ((fresh, ob) :: h) w') (x fresh) v → Nm (fun j => p j ∨ j = fresh) (x fresh) →
      Evo (owns β h) w (owns β' ((fresh, ob) :: h)) w' → Step p (cx ext β h w) (cx ext β' ((fresh, ob) :: h) w') → K (a.put o.dst v) w') : o.wp P a w K Q := by
  obtain ⟨vs, hrun, hsz, hrel⟩ := target_ok i ho ht hp.callable
  unfold Oper.wp
  rw [hrun, Oper.upon_enter]
  have hargs : ∀ (k : Nat) y v, args'[k]? = some y → vs[k]? = some v → VRel (cx (fun b => ext b ∨ owns β h b) (fun _ => none) [] w) y v := fun k y v hy hv => by
    have hlt : k < args.length := by rw [← hlen]; exact (List.getElem?_eq_some_iff.1 hy).1
    exact Frz.rel i.heap (fun b hb => hb) (fun id ob b hS hl hb hx => hS.elim) ((hf k args[k] y (List.getElem?_eq_getElem hlt) hy).none h) v (hrel k _ v (List.getElem?_eq_getElem hlt) hv)
  refine (hp.run ext β p h w vs fresh i.heap hpf (by rw [hsz, hlen]) hargs).mono ?_
  rintro e w' ⟨v, β', rfl, k1, k2, k3, k4, k5⟩
  exact hk v w' β' k1 k2 k3 k4 k5

theorem mem_ready {md : Region.Mode} {ops : Array Oper} {listed : Array Bool} {i : Nat} : i ∈ Region.ready md ops listed ↔ i < ops.size ∧ listed.getD i true = false ∧ ∃ o, ops[i]? = some o ∧ ∀ e, e ∈ o.after → Region.binds md e = true → listed.getD e.on false = true := by
  unfold Region.ready
  rw [List.mem_filter, List.mem_range]
  constructor
  · rintro ⟨h1, h2⟩
    simp only [Bool.and_eq_true, Bool.not_eq_true'] at h2
    refine ⟨h1, h2.1, ops[i], Array.getElem?_eq_getElem h1, fun e he hb => ?_⟩
    have h3 := h2.2
    rw [Array.getElem?_eq_getElem h1, Option.map_some, Option.getD_some, Array.all_eq_true'] at h3
    have := h3 e he
    simpa [hb] using this
  · rintro ⟨h1, h2, o, ho, h3⟩
    refine ⟨h1, ?_⟩
    simp only [Bool.and_eq_true, Bool.not_eq_true']
    refine ⟨h2, ?_⟩
    rw [ho, Option.map_some, Option.getD_some, Array.all_eq_true']
    intro e he
    cases hb : Region.binds md e with
    | false => rfl
    | true => simpa using h3 e he hb

/-- How many have not been done. -/
def todo (listed : Array Bool) : Nat := (listed.toList.filter fun b => !b).length

theorem todo_set {listed : Array Bool} {i : Nat} (hi : i < listed.size) (h : listed.getD i true = false) : todo (listed.setIfInBounds i true) + 1 = todo listed := by
  unfold todo
  have e : (listed.setIfInBounds i true).toList = listed.toList.set i true := by simp
  rw [e]
  have hl : i < listed.toList.length := by simpa using hi
  have hg : listed.toList[i] = false := by
    rw [Array.getD_eq_getD_getElem?, Array.getElem?_eq_getElem hi] at h
    simpa using h
  generalize listed.toList = l at hl hg
  clear e h hi
  induction l generalizing i with
  | nil => simp at hl
  | cons b l ih =>
    cases i with
    | zero => simp at hg; subst hg; simp
    | succ i =>
      have := ih (i := i) (Nat.lt_of_succ_lt_succ hl) hg
      simp only [List.set_cons_succ, List.filter_cons]
      split
      · simp only [List.length_cons]; omega
      · exact this

theorem todo_pos {listed : Array Bool} {i : Nat} (hi : i < listed.size) (h : listed.getD i true = false) : 0 < todo listed := by
  have := todo_set hi h; omega

variable {Q : Exit → St → Prop}

theorem draw_fin {ext : Nat → Prop} {β0 : Nat → Option Nat} {h0 : Heap} {w0 : World} (listed : Array Bool) (a : Act) (w : World) (β : Nat → Option Nat) (tmD : List AVal) (hD : Heap) (pl : Plan fl P all nx tm hp tc) (hQ : Q .normal ⟨tm all.size, hp all.size, nx + all.size⟩)
    (hls : listed.size = all.size) (sd : SD all nx tm hp tc (fun k => listed.getD k false = true) tmD hD) (hs : SInP n0 ext β (pD all nx fun k => listed.getD k false = true) tmD hD a w) (hg : Goes n0 ext β0 h0 w0 β hD w)
    (hr : Region.ready .any all listed = []) : Post n0 ext β0 h0 w0 Q .normal a w := by
  have hall : ∀ k, k < all.size → listed.getD k false = true := by
    intro k
    induction k using Nat.strongRecOn with
    | ind k ih =>
      intro hk
      cases hb : listed.getD k false with
      | true => rfl
      | false =>
        exfalso
        have : k ∈ Region.ready .any all listed := by
          refine mem_ready.2 ⟨hk, ?_, all[k], Array.getElem?_eq_getElem hk, fun e he hbnd => ih e.on (pl.c1 k _ e (Array.getElem?_eq_getElem hk) he hbnd) ?_⟩
          · rw [Array.getD_eq_getD_getElem?, Array.getElem?_eq_getElem (by omega)] at hb ⊢
            simpa using hb
          · exact Nat.lt_trans (pl.c1 k _ e (Array.getElem?_eq_getElem hk) he hbnd) hk
        rw [hr] at this
        simp at this
  obtain ⟨e1, e2⟩ := sd.fin pl hall
  subst e1
  obtain ⟨q1, q2, q3⟩ := hs.heap.congr (h' := hp all.size) fun id => (e2 id).symm
  have hpq : ∀ id, (pD all nx fun k => listed.getD k false = true) id → id < nx + all.size := fun id hid => by
    rcases hid with hid | ⟨k, z1, z2, z3⟩
    · omega
    · omega
  exact ⟨β, ⟨tm all.size, hp all.size, nx + all.size⟩, hQ, ⟨q1.mono hpq, hs.size, fun i x v hx hv => (hs.rel i x v hx hv).step (q3 _) (hs.nm x (List.mem_of_getElem? hx)), fun x hx => (hs.nm x hx).mono hpq, hs.defers, fun j hj => hpq j (hs.low j hj)⟩, hg.trans ⟨q2, q3 _⟩⟩

theorem draw_sim (pl : Plan fl P all nx tm hp tc) (hn0 : n0 ≤ nx) (hQ : Q .normal ⟨tm all.size, hp all.size, nx + all.size⟩) {ext : Nat → Prop} {β0 : Nat → Option Nat} {h0 : Heap} {w0 : World} : ∀ (fuel : Nat) (listed : Array Bool) (a : Act) (w : World) (β : Nat → Option Nat) (tmD : List AVal) (hD : Heap),
    listed.size = all.size → todo listed ≤ fuel → (∀ k i, Before all k i → listed.getD i false = true → listed.getD k false = true) → SD all nx tm hp tc (fun k => listed.getD k false = true) tmD hD →
    SInP n0 ext β (pD all nx fun k => listed.getD k false = true) tmD hD a w → Goes n0 ext β0 h0 w0 β hD w → wpAny P .any all (Post n0 ext β0 h0 w0 Q) fuel listed a w := by
  intro fuel
  induction fuel with
  | zero =>
    intro listed a w β tmD hD hls htd down sd hs hg
    have hr : Region.ready .any all listed = [] := by
      rw [List.eq_nil_iff_forall_not_mem]
      intro i hi
      obtain ⟨h1, h2, _⟩ := mem_ready.1 hi
      have := todo_pos (by omega) h2
      omega
    exact ⟨hr, draw_fin listed a w β tmD hD pl hQ hls sd hs hg hr⟩
  | succ fuel ih =>
    intro listed a w β tmD hD hls htd down sd hs hg
    refine ⟨fun hr => draw_fin listed a w β tmD hD pl hQ hls sd hs hg hr, fun j hj => ?_⟩
    obtain ⟨hjs, hjl, o, ho, hedges⟩ := mem_ready.1 hj
    have hjD : ¬ listed.getD j false = true := by
      rw [Array.getD_eq_getD_getElem?, Array.getElem?_eq_getElem (by omega)] at hjl ⊢
      simp at hjl ⊢
      exact hjl
    have hrr : ∀ k, Before all k j → listed.getD k false = true := by
      have gen : ∀ k i, Before all k i → i = j → listed.getD k false = true := fun k i hb => by
        induction hb with
        | edge i o' e ho' he hb =>
          rintro rfl
          rw [ho] at ho'
          injection ho' with ho'
          subst ho'
          exact hedges e he hb
        | trans i j' k' h1 h2 ih1 ih2 =>
          intro e
          exact down _ _ h1 (ih2 e)
      exact fun k hb => gen k j hb rfl
    have hset : ∀ k, (listed.setIfInBounds j true).getD k false = true ↔ (listed.getD k false = true ∨ k = j) := fun k => by
      rw [Array.getD_eq_getD_getElem?, Array.getD_eq_getD_getElem?]
      by_cases e : k = j
      · subst e
        rw [Array.getElem?_setIfInBounds_self_of_lt (by omega)]
        simp
      · rw [Array.getElem?_setIfInBounds_ne (fun h => e h.symm)]
        simp [e]
    have hDeq : (fun k => (listed.setIfInBounds j true).getD k false = true) = fun k => listed.getD k false = true ∨ k = j := funext fun k => propext (hset k)
    have hslot := fun t ht => sd.slotAt pl down hjs hjD hrr ho (t := t) ht
    have hev : ∀ x, x ∈ o.op.operands → ev tmD x = ev (tm j) x := fun x hx => ev_agree hslot x hx
    have hgd : guardA all tmD o = guardA all (tm j) o := guard_agree hslot
    have hheap : ∀ id, (aff nx tc j id ∨ id ∈ (tc j).2) → lk hD id = lk (hp j) id := fun id hid => sd.heapAt pl down hjs hjD hrr hid
    -- what follows when it has been done
    have go : ∀ (y : AVal) (v : Value) (β' : Nat → Option Nat) (hD' : Heap) (w' : World), tm (j + 1) = putT (tm j) o.dst y → (∀ id, lk (hp j) id = lk hD id → lk (hp (j + 1)) id = lk hD' id) → (∀ id, ¬ aff nx tc j id → lk hD' id = lk hD id) →
        HIn ext β' (pD all nx fun k => listed.getD k false = true ∨ k = j) hD' w' → VRel (cx ext β' hD' w') y v → Nm (pD all nx fun k => listed.getD k false = true ∨ k = j) y → Goes n0 ext β hD w β' hD' w' →
        Step (pD all nx fun k => listed.getD k false = true) (cx ext β hD w) (cx ext β' hD' w') →
        wpAny P .any all (Post n0 ext β0 h0 w0 Q) fuel (listed.setIfInBounds j true) (a.put o.dst v) w' := by
      intro y v β' hD' w' q1 q2 q3 q4 q5 q6 q7 q8
      refine ih (listed.setIfInBounds j true) _ w' β' (putT tmD o.dst y) hD' (by simpa using hls) (by have := todo_set (by omega) hjl; omega) (fun k i hb hi => ?_) ?_ ?_ (hg.trans q7)
      · rw [hset] at hi ⊢
        rcases hi with hi | hi
        · exact .inl (down k i hb hi)
        · exact .inl (hrr k (hi ▸ hb))
      · rw [hDeq]
        exact sd.next pl down hjs hjD hrr ho q1 q2 q3
      · rw [hDeq]
        exact hs.put q4 (fun id hid => hid.imp (fun h => h) fun ⟨k, z1, z2, z3⟩ => ⟨k, z1, .inl z2, z3⟩) q8 q5 q6 o.dst
    unfold wpOp
    rw [ho]
    simp only []
    obtain ⟨o', ho', hcase⟩ := pl.ps j hjs
    rw [ho] at ho'
    injection ho' with ho'
    subst ho'
    rcases hcase with ⟨h1, h2, h3, h4⟩ | ⟨y, h1, h2, h3, h4⟩ | ⟨y, h1, hfl, ha, hna, ht, h2, h3, h4⟩ | ⟨c, g, args, args', r, L, h1, h2, h3, h4, h5, h6, h7, h8, h9, h10⟩ | ⟨c, g, args, args', x, ob, h1, h2, h3, h4, h5, h6, h8, h9, h10⟩ | ⟨y, h1, h2, h3, h4, h5⟩ | ⟨y, L, L', N, h1, _, hk, hL, h2, h3, h4, h5⟩
    · rw [guard_ok hs (hgd.trans h1), if_neg (by simp)]
      exact go (.tuple []) undef β hD w h2 (fun id he => by rw [h3]; exact he) (fun id _ => rfl) (hs.heap.mono fun id hid => hid.imp (fun h => h) fun ⟨k, z1, z2, z3⟩ => ⟨k, z1, .inl z2, z3⟩) rel_undef (.tuple [] (by simp)) (Goes.refl n0 ext β hD w) (Step.refl _ _)
    · rw [guard_ok hs (hgd.trans h1), if_pos rfl]
      refine .inl ?_
      have htc : ∀ id, id ∈ touched (tm j) o → lk (hp j) id = lk hD id := fun id hid => (hheap id (.inr (by rw [h4]; exact hid))).symm
      obtain ⟨hD', hs1, heff⟩ := astep_loc htc h2
      have hs2 : astep P tmD hD (nx + j) o = some (y, hD') := by rw [astep_congr hev]; exact hs1
      have hfresh : ¬ (pD all nx fun k => listed.getD k false = true) (nx + j) := by
        rintro (hid | ⟨k, q1, q2, q3⟩)
        · omega
        · have : k = j := by omega
          subst this
          exact hjD q2
      obtain ⟨rr, v, w', β', e1, e2, e3, e4, e5, e6, e7⟩ := astep_ok hs hfresh hs2
      have hpq : ∀ id, ((pD all nx fun k => listed.getD k false = true) id ∨ id = nx + j) → (pD all nx fun k => listed.getD k false = true ∨ k = j) id := fun id hid => by
        rcases hid with (hid | ⟨k, q1, q2, q3⟩) | hid
        · exact .inl hid
        · exact .inr ⟨k, q1, .inl q2, q3⟩
        · exact .inr ⟨j, hjs, .inr rfl, hid⟩
      have hkeep : ∀ id, ¬ aff nx tc j id → lk hD' id = lk hD id := fun id hid => by
        by_cases hw : isWriter o = true
        · exact heff.keep2 htc id (fun e => hid (.inl e)) (fun hm => hid (.inr (by rw [h4]; exact ⟨hw, hm⟩)))
        · exact astep_keeps (by simpa using hw) hs2 id (fun e => hid (.inl e))
      have hgo := go y v β' hD' w' h3 (fun id he => heff.same htc id he) hkeep (e3.mono hpq) e4 (e5.mono hpq) ⟨e6, e7.weaken fun id hid => .inl (Nat.lt_of_lt_of_le hid hn0)⟩ e7
      unfold Oper.wp
      rw [e1]
      rcases e2 with rfl | ⟨rfl, rfl⟩
      · exact hgo
      · exact hgo
    · rw [guard_ok hs (hgd.trans h1), if_pos rfl]
      refine .inl ?_
      have hheq : hp (j + 1) = hp j := (astep_adr (g := hp j) ha ht h2 fun _ _ => rfl).1
      have hs1 := (astep_adr (g := hD) ha ht h2 fun id hid => sd.shapeAt pl hfl hna hjs hid).2
      have hs2 : astep P tmD hD (nx + j) o = some (y, hD) := by rw [astep_congr hev]; exact hs1
      have hfresh : ¬ (pD all nx fun k => listed.getD k false = true) (nx + j) := by
        rintro (hid | ⟨k, q1, q2, q3⟩)
        · omega
        · have : k = j := by omega
          subst this
          exact hjD q2
      obtain ⟨rr, v, w', β', e1, e2, e3, e4, e5, e6, e7⟩ := astep_ok hs hfresh hs2
      have hpq : ∀ id, ((pD all nx fun k => listed.getD k false = true) id ∨ id = nx + j) → (pD all nx fun k => listed.getD k false = true ∨ k = j) id := fun id hid => by
        rcases hid with (hid | ⟨k, q1, q2, q3⟩) | hid
        · exact .inl hid
        · exact .inr ⟨k, q1, .inl q2, q3⟩
        · exact .inr ⟨j, hjs, .inr rfl, hid⟩
      have hgo := go y v β' hD w' h3 (fun id he => by rw [hheq]; exact he) (fun id _ => rfl) (e3.mono hpq) e4 (e5.mono hpq) ⟨e6, e7.weaken fun id hid => .inl (Nat.lt_of_lt_of_le hid hn0)⟩ e7
      unfold Oper.wp
      rw [e1]
      rcases e2 with rfl | ⟨rfl, rfl⟩
      · exact hgo
      · exact hgo
    · rw [guard_ok hs (hgd.trans h1), if_pos rfl]
      refine .inl ?_
      have htc : ∀ id, id ∈ L → lk (hp j) id = lk hD id := fun id hid => (hheap id (.inr (by rw [h10]; exact hid))).symm
      refine call_wp hs h2 ((target_agree h2 hev).trans h3) h4 h5 (fun k x y hx hy => (h6 k x y hx hy).loc htc) h7 fun v w' q1 q2 q3 q4 q5 => ?_
      exact go r v β hD w' h8 (fun id he => by rw [h9]; exact he) (fun id _ => rfl) (q1.mono fun id hid => hid.imp (fun h => h) fun ⟨k, z1, z2, z3⟩ => ⟨k, z1, .inl z2, z3⟩) q2 (Fz.nm q3 _) ⟨q4, q5 _⟩ (q5 _)
    · rw [guard_ok hs (hgd.trans h1), if_pos rfl]
      refine .inl ?_
      have hfresh : ¬ (pD all nx fun k => listed.getD k false = true) (nx + j) := by
        rintro (hid | ⟨k, q1, q2, q3⟩)
        · omega
        · have : k = j := by omega
          subst this
          exact hjD q2
      have hpq : ∀ id, ((pD all nx fun k => listed.getD k false = true) id ∨ id = nx + j) → (pD all nx fun k => listed.getD k false = true ∨ k = j) id := fun id hid => by
        rcases hid with (hid | ⟨k, q1, q2, q3⟩) | hid
        · exact .inl hid
        · exact .inr ⟨k, q1, .inl q2, q3⟩
        · exact .inr ⟨j, hjs, .inr rfl, hid⟩
      refine new_wp hs hfresh h2 ((target_agree h2 hev).trans h3) h4 h5 (fun k x y hx hy => (h6 k x y hx hy).loc fun id hid => by cases hid) fun v w' β' q1 q2 q3 q4 q5 => ?_
      exact go (x (nx + j)) v β' ((nx + j, ob) :: hD) w' h8 (fun id he => by rw [h9, lk_cons, lk_cons, he]) (fun id hid => by rw [lk_cons, if_neg fun e => hid (.inl e)]) (q1.mono hpq) q2 (q3.mono hpq) ⟨q4, q5.weaken fun id hid => .inl (Nat.lt_of_lt_of_le hid hn0)⟩ q5
    · rw [guard_ok hs (hgd.trans h1), if_pos rfl]
      refine .inl ?_
      refine h2 n0 ext β _ tmD hD a w hs hev _ _ fun v w' q1 q2 q3 q4 q5 => ?_
      exact go y v β hD w' h3 (fun id he => by rw [h4]; exact he) (fun id _ => rfl) (q1.mono fun id hid => hid.imp (fun h => h) fun ⟨k, z1, z2, z3⟩ => ⟨k, z1, .inl z2, z3⟩) q2 (Fz.nm q3 _) ⟨q4, q5 _⟩ (q5 _)
    · rw [guard_ok hs (hgd.trans h1), if_pos rfl]
      refine .inl ?_
      have hL' : ∀ e, e ∈ L → lk hD e.1 = some e.2 := fun e he => by
        rw [hheap e.1 (.inr (by rw [h5]; exact List.mem_map.2 ⟨e, he, rfl⟩))]
        exact hL e he
      have hfresh : ¬ (pD all nx fun k => listed.getD k false = true) (nx + j) := by
        rintro (hid | ⟨k, q1, q2, q3⟩)
        · omega
        · have : k = j := by omega
          subst this
          exact hjD q2
      have hpq : ∀ id, ((pD all nx fun k => listed.getD k false = true) id ∨ id = nx + j) → (pD all nx fun k => listed.getD k false = true ∨ k = j) id := fun id hid => by
        rcases hid with (hid | ⟨k, q1, q2, q3⟩) | hid
        · exact .inl hid
        · exact .inr ⟨k, q1, .inl q2, q3⟩
        · exact .inr ⟨j, hjs, .inr rfl, hid⟩
      refine h2 n0 ext β _ tmD hD a w (nx + j) hs hfresh hev hL' _ _ fun v w' β' q1 q2 q3 q4 q5 => ?_
      refine go (y (nx + j)) v β' (addF (nx + j) N (upds hD (L' (nx + j)))) w' h3 (fun id he => ?_) (fun id hid => ?_) (q1.mono hpq) q2 (q3.mono hpq) ⟨q4, q5.weaken fun id hid => .inl (Nat.lt_of_lt_of_le hid hn0)⟩ q5
      · rw [h4]
        exact lk_addF_same (lk_upds_same _ _ _ (keys_some hk hL) (keys_some hk hL') he)
      · rw [lk_addF fun e => hid (.inl e)]
        exact lk_upds_ne _ _ fun e h7 h8 => hid (.inr (by rw [h5]; exact ⟨rfl, h8 ▸ hk e h7⟩))

theorem indep_ok {n n0 : Nat} {Pr : List Nat} {tc : List (Bool × List Nat)} (h : indepB n n0 Pr tc = true) (i k : Nat) (hi : i < n) (hk : k < n) (hne : i ≠ k) :
    (Pr.getD i 0).testBit k = true ∨ (Pr.getD k 0).testBit i = true ∨ (((tc.getD i (false, [])).1 = false ∨ ∀ id, id ∈ (tc.getD i (false, [])).2 → id ∉ (tc.getD k (false, [])).2) ∧ n0 + i ∉ (tc.getD k (false, [])).2) := by
  unfold indepB at h
  rw [List.all_eq_true] at h
  have h1 := h i (List.mem_range.2 hi)
  rw [List.all_eq_true] at h1
  have h2 := h1 k (List.mem_range.2 hk)
  simp only [Bool.or_eq_true, beq_iff_eq, List.contains_iff_mem, Bool.and_eq_true, Bool.not_eq_true', List.all_eq_true] at h2
  rcases h2 with ((h2 | h2) | h2) | ⟨h2, h3⟩
  · exact absurd h2 hne
  · exact .inl h2
  · exact .inr (.inl h2)
  · refine .inr (.inr ⟨h2.imp (fun h => h) fun h id hid hm => ?_, fun hm => ?_⟩)
    · have := h id hid
      rw [List.contains_iff_mem.2 hm] at this
      cases this
    · rw [List.contains_iff_mem.2 hm] at h3
      cases h3

/-- A row whose order is drawn. -/
theorem AWP_draw {id : Nat} {ops : Array Oper} {s : St} (hm : P.follows .mixedOrders = true) (hc : chk ops (preds ops) = true) (d : DR fl P ops (preds ops) s.nx (fun s => Q .normal s) 0 s.tmps s.h []) : AWP P n0 (.region id ops true) Q s := by
  intro ext β a w hs
  obtain ⟨tm, hp, tcs, h1, h2, _, h4, h5, h6, h7⟩ := d.plan rfl (Nat.zero_le _)
  obtain ⟨c1, c2⟩ := chk_ok hc
  have pl : Plan fl P ops s.nx tm hp (fun j => tcs.getD j (false, [])) := by
    refine ⟨fun j hj => h5 j (Nat.zero_le _) hj, c1, c2, fun i k hi hk hne => ?_⟩
    rcases indep_ok h6 i k hi hk hne with h | h | h
    · exact .inl (pre_ok h)
    · exact .inr (.inl (pre_ok h))
    · exact .inr (.inr h)
  obtain ⟨q1, q2, q3⟩ := hs.heap.drawn (w.drawn + 1)
  have hn0 : n0 ≤ s.nx := by
    rcases Nat.eq_zero_or_pos n0 with h | h
    · omega
    · have := hs.low (n0 - 1) (by omega)
      have : n0 - 1 < s.nx := this
      omega
  have hnone : ∀ k, ¬ (Array.replicate ops.size false).getD k false = true := fun k => by
    rw [Array.getD_eq_getD_getElem?, Array.getElem?_replicate]
    split <;> simp
  have hpq : ∀ id, id < s.nx → (pD ops s.nx fun k => (Array.replicate ops.size false).getD k false = true) id := fun id hid => .inl hid
  refine wp_region_any hm (draw_sim pl hn0 h7 ops.size _ a _ β s.tmps s.h (by simp) (by simp [todo]) (fun k i _ hi => absurd hi (hnone i)) ?_ ?_ ⟨q2, q3 _⟩)
  · refine ⟨by rw [h1], fun t _ => by rw [h1], fun t k o hk hD => absurd hD (hnone k), fun id _ => by rw [h2], fun id k hk hD => absurd hD (hnone k)⟩
  · exact ⟨q1.mono hpq, hs.size, fun i x v hx hv => (hs.rel i x v hx hv).step (q3 _) (hs.nm x (List.mem_of_getElem? hx)), fun x hx => (hs.nm x hx).mono hpq, hs.defers, fun j hj => hpq j (hs.low j hj)⟩

/-- A drawn row in the order of the text, up to its next call. -/
def drun (P : Program) (all : Array Oper) (K : List Oper → Nat → List AVal → Heap → List (Bool × List Nat) → Nat → Prop) (n0 : Nat) : List Oper → Nat → List AVal → Heap → List (Bool × List Nat) → Prop
  | [], i, tm, h, tc => K [] i tm h tc n0
  | o :: rest, i, tm, h, tc =>
    match isCall o with
    | true => K (o :: rest) i tm h tc n0
    | false =>
      match guardA all tm o with
      | none => False
      | some g =>
        gsplit g (match astep P tm h (n0 + i) o with | some (y, h') => drun P all K n0 rest (i + 1) (putT tm o.dst y) h' (tc ++ [(isWriter o, touched tm o)]) | none => False)
          (drun P all K n0 rest (i + 1) (putT tm o.dst (.tuple [])) h (tc ++ [(false, [])]))

/-- What is left of a drawn row. -/
def DW (fl : Bool) (P : Program) (all : Array Oper) (n0 : Nat) (K : St → Prop) (rest : List Oper) (i : Nat) (tm : List AVal) (h : Heap) (tc : List (Bool × List Nat)) : Prop :=
  all.toList.drop i = rest → DR fl P all (preds all) n0 K i tm h tc

theorem drop_cons {all : Array Oper} {i : Nat} {o : Oper} {rest : List Oper} (h : all.toList.drop i = o :: rest) : all[i]? = some o ∧ all.toList.drop (i + 1) = rest := by
  constructor
  · have h1 : (all.toList.drop i)[0]? = some o := by rw [h]; rfl
    rw [List.getElem?_drop] at h1
    simpa using h1
  · rw [← List.tail_drop, h]; rfl

theorem DW_drun {all : Array Oper} {n0 : Nat} {K' : St → Prop} {K : List Oper → Nat → List AVal → Heap → List (Bool × List Nat) → Nat → Prop} (hK : ∀ rest i tm h tc, K rest i tm h tc n0 → DW fl P all n0 K' rest i tm h tc) :
    ∀ (rest : List Oper) (i : Nat) (tm : List AVal) (h : Heap) (tc : List (Bool × List Nat)), drun P all K n0 rest i tm h tc → DW fl P all n0 K' rest i tm h tc
  | [], i, tm, h, tc, d => hK _ _ _ _ _ d
  | o :: rest, i, tm, h, tc, d => by
    simp only [drun] at d
    split at d
    · exact hK _ _ _ _ _ d
    · intro hd
      obtain ⟨ho, hd'⟩ := drop_cons hd
      split at d
      · exact d.elim
      · rename_i g hg
        cases g with
        | true =>
          have d := d.1 rfl
          split at d
          · rename_i y h' hy
            exact .step i tm h tc o y h' ho hg hy (DW_drun hK rest (i + 1) _ _ _ d hd')
          · exact d.elim
        | false => exact .skip i tm h tc o ho hg (DW_drun hK rest (i + 1) _ _ _ (d.2 rfl) hd')

section
variable {k : List It} {s : St} {K' : St → Prop} {i : Nat} {tm : List AVal} {h : Heap} {tc : List (Bool × List Nat)}

theorem D_nil (hi : i = all.size) (hind : indepB i nx (preds all) tc = true) (hk : K' ⟨tm, h, nx + i⟩) : DW fl P all nx K' [] i tm h tc := fun _ => .nil i tm h tc hi hind hk

theorem D_call {o : Oper} {rest : List Oper} (c : Call) (g : FuncId) (args args' : List AVal) (r : AVal) (L : List Nat) (hg : guardA all tm o = some true) (hop : o.op = .call c)
    (ht : target tm c = some (g, args)) (hc : PCall P g args' (· = r)) (hlen : args'.length = args.length) (hf : ∀ (k : Nat) x y, args[k]? = some x → args'[k]? = some y → Frz h (· ∈ L) x y) (hflat : Flat r ∨ L = [])
    (hk : DW fl P all nx K' rest (i + 1) (putT tm o.dst r) h (tc ++ [(false, L)])) : DW fl P all nx K' (o :: rest) i tm h tc := fun hd =>
  let ⟨ho, hd'⟩ := drop_cons hd
  .call i tm h tc o c g args args' r L ho hg hop ht hc hlen hf hflat (hk hd')

theorem D_fresh {o : Oper} {rest : List Oper} (c : Call) (g : FuncId) (args args' : List AVal) (x : Nat → AVal) (ob : Ob) (hg : guardA all tm o = some true) (hop : o.op = .call c)
    (ht : target tm c = some (g, args)) (hc : PNew P g args' x ob) (hlen : args'.length = args.length) (hf : ∀ (k : Nat) x y, args[k]? = some x → args'[k]? = some y → Frz h (· ∈ ([] : List Nat)) x y)
    (hk : DW fl P all nx K' rest (i + 1) (putT tm o.dst (x (nx + i))) ((nx + i, ob) :: h) (tc ++ [(false, [])])) : DW fl P all nx K' (o :: rest) i tm h tc := fun hd =>
  let ⟨ho, hd'⟩ := drop_cons hd
  .fresh i tm h tc o c g args args' x ob ho hg hop ht hc hlen hf (hk hd')

theorem D_lit {o : Oper} {rest : List Oper} (y : AVal) (hg : guardA all tm o = some true) (hl : LitOp P tm o y) (hk : DW fl P all nx K' rest (i + 1) (putT tm o.dst y) h (tc ++ [(false, [])])) : DW fl P all nx K' (o :: rest) i tm h tc := fun hd =>
  let ⟨ho, hd'⟩ := drop_cons hd
  .lit i tm h tc o y ho hg hl (hk hd')

theorem D_skip {o : Oper} {rest : List Oper} (hg : guardA all tm o = some false) (hk : DW fl P all nx K' rest (i + 1) (putT tm o.dst (.tuple [])) h (tc ++ [(false, [])])) : DW fl P all nx K' (o :: rest) i tm h tc := fun hd =>
  let ⟨ho, hd'⟩ := drop_cons hd
  .skip i tm h tc o ho hg (hk hd')

theorem D_run {rest : List Oper} (hr : ∀ K : List Oper → Nat → List AVal → Heap → List (Bool × List Nat) → Nat → Prop, (∀ rest i tm h tc, DW fl P all nx K' rest i tm h tc → K rest i tm h tc nx) → drun P all K nx rest i tm h tc) : DW fl P all nx K' rest i tm h tc :=
  DW_drun (K := fun rest i tm h tc n => DW fl P all n K' rest i tm h tc) (fun _ _ _ _ _ h => h) _ _ _ _ _ (hr _ fun _ _ _ _ _ h => h)

theorem W_draw {id : Nat} {ops : Array Oper} {n0 : Nat} (hm : P.follows .mixedOrders = true) (hc : chk ops (preds ops) = true)
    (hr : ∀ K : List Oper → Nat → List AVal → Heap → List (Bool × List Nat) → Nat → Prop, (∀ rest i tm h tc, DW fl P ops s.nx (fun s => unw P n0 k Q .normal s) rest i tm h tc → K rest i tm h tc s.nx) → drun P ops K s.nx ops.toList 0 s.tmps s.h []) :
    AWP P n0 (.region id ops true) (unw P n0 k Q) s :=
  AWP_draw hm hc (DW_drun (K := fun rest i tm h tc n => DW fl P ops n (fun s => unw P n0 k Q .normal s) rest i tm h tc) (fun _ _ _ _ _ h => h) _ _ _ _ _ (hr _ fun _ _ _ _ _ h => h) (by simp))

end
end
end Go.AM
end

section
namespace Go.AM
open Go

section
variable {fl : Bool} {P : Program} {n0 : Nat} {all : Array Oper} {K : St → Prop}

theorem Frz.args {h : Heap} {S : Nat → Prop} (args : List AVal) (k : Nat) (x y : AVal) (hx : args[k]? = some x) (hy : args[k]? = some y) : Frz h S x y := by
  rw [hx] at hy
  injection hy with hy
  subst hy
  exact .refl x

/-- A call with arguments that hold no object of the caller's. -/
theorem AO_call0 {o : Oper} {rest : List Oper} {i : Nat} {s : St} {c : Call} {g : FuncId} {args : List AVal} {r : AVal} (hg : guardA all s.tmps o = some true) (ho : o.op = .call c) (ht : target s.tmps c = some (g, args))
    (hp : PCall P g args (· = r)) (h : AO P n0 all rest (i + 1) K ⟨putT s.tmps o.dst r, s.h, s.nx + 1⟩) : AO P n0 all (o :: rest) i K s :=
  AO_call hg ho ht hp rfl (fun _ _ h => h) (Frz.args args) fun r' hr => by subst hr; exact h

/-- Such a call of which only so much is known. -/
theorem AO_callQ {o : Oper} {rest : List Oper} {i : Nat} {s : St} {c : Call} {g : FuncId} {args : List AVal} {Q : AVal → Prop} (hg : guardA all s.tmps o = some true) (ho : o.op = .call c) (ht : target s.tmps c = some (g, args))
    (hp : PCall P g args Q) (h : ∀ r, Q r → AO P n0 all rest (i + 1) K ⟨putT s.tmps o.dst r, s.h, s.nx + 1⟩) : AO P n0 all (o :: rest) i K s :=
  AO_call hg ho ht hp rfl (fun _ _ h => h) (Frz.args args) h

theorem retQ_of {rs : List ResultVar} {Q : AVal → Prop} {s : St} {xs : List AVal} (h : resAs P s rs = some xs) (hf : Fz (packA xs)) (hq : Q (packA xs)) : retQ P rs Q .ret s := ⟨xs, _, h, .refl _, hf, hq⟩

theorem retQ_tmp {t : Tmp} {Q : AVal → Prop} {s : St} {x : AVal} (h : s.tmps.getD t .junk = x) (hf : Fz x) (hq : Q x) : retQ P [.tmp t] Q .ret s := by
  refine retQ_of (xs := [x]) ?_ hf hq
  simp only [resAs, resA, h]

theorem retQ_int {t : Tmp} {Q : AVal → Prop} {s : St} {k : IntKind} {n : Int} (h : s.tmps.getD t .junk = .int k n) (hq : Q (.int k n)) : retQ P [.tmp t] Q .ret s := retQ_tmp h (.int _ _) hq
theorem retQ_bool {t : Tmp} {Q : AVal → Prop} {s : St} {b : Bool} (h : s.tmps.getD t .junk = .bool b) (hq : Q (.bool b)) : retQ P [.tmp t] Q .ret s := retQ_tmp h (.bool _) hq
theorem retQ_int2 {t t' : Tmp} {Q : AVal → Prop} {s : St} {k k' : IntKind} {n n' : Int} (h : s.tmps.getD t .junk = .int k n) (h' : s.tmps.getD t' .junk = .int k' n') (hq : Q (.tuple [.int k n, .int k' n'])) : retQ P [.tmp t, .tmp t'] Q .ret s := by
  refine retQ_of (xs := [.int k n, .int k' n']) ?_ (.tuple _ fun x hx => ?_) hq
  · simp only [resAs, resA, h, h']
  · simp at hx
    rcases hx with rfl | rfl <;> exact .int _ _

end

/-- A call in a row whose order is drawn, with arguments that hold no object of the caller's. -/
theorem D_call0 {fl : Bool} {P : Program} {all : Array Oper} {nx : Nat} {K' : St → Prop} {i : Nat} {tm : List AVal} {h : Heap} {tc : List (Bool × List Nat)} {o : Oper} {rest : List Oper} {c : Call} {g : FuncId} {args : List AVal} {r : AVal}
    (hg : guardA all tm o = some true) (hop : o.op = .call c) (ht : target tm c = some (g, args)) (hc : PCall P g args (· = r))
    (hk : DW fl P all nx K' rest (i + 1) (putT tm o.dst r) h (tc ++ [(false, [])])) : DW fl P all nx K' (o :: rest) i tm h tc :=
  D_call c g args args r [] hg hop ht hc rfl (Frz.args args) (.inr rfl) hk

theorem Fz.int_iff (k : IntKind) (n : Int) : Fz (.int k n) ↔ True := ⟨fun _ => trivial, fun _ => .int k n⟩
theorem Fz.bool_iff (b : Bool) : Fz (.bool b) ↔ True := ⟨fun _ => trivial, fun _ => .bool b⟩

theorem bits_min (k : IntKind) (n : Nat) (h : n ≤ k.bits) : min n k.bits = n := Nat.min_eq_left h
theorem u64_min (n : Nat) (h : n ≤ 64) : min n IntKind.u64.bits = n := Nat.min_eq_left h
theorem i64_min (n : Nat) (h : n ≤ 64) : min n IntKind.i64.bits = n := Nat.min_eq_left h

theorem Fz.agg_iff (l : List AVal) : Fz (.agg l) ↔ ∀ x, x ∈ l → Fz x := ⟨fun h => by cases h with | agg _ h => exact h, fun h => .agg l h⟩
theorem Fz.str_iff (s : ByteArray) : Fz (.str s) ↔ True := ⟨fun _ => trivial, fun _ => .str s⟩

attribute [go_sem] drun touched touchOf isWriter resAs resA packA

end Go.AM
end

section
namespace Go.AM
open Go Go.RowKit

theorem law_calls {P : Program} {g : FuncId} {args : List AVal} {vs : Array Value} {w : World} (h : PCall P g args (· = .bool true)) (hlen : vs.size = args.length)
    (hrel : ∀ (k : Nat) x v, args[k]? = some x → vs[k]? = some v → VRel (cx (fun _ => False) (fun _ => none) [] w) x v) : Calls P g vs w fun e w' => e = .returned (.bool true) ∧ Below w.heap.size w w' := by
  refine (h.run (fun _ => False) w vs (fun _ h => h.elim) hlen hrel).mono ?_
  rintro e w' ⟨v, r, rfl, rfl, _, hv, hev⟩
  cases hv
  exact ⟨rfl, hev.rest.1, hev.rest.2.1, hev.rest.2.2, hev.size, fun k hk => hev.keep k hk fun h => h⟩

theorem rel_nil {c : Cx} (k : Nat) (x : AVal) (v : Value) (hx : ([] : List AVal)[k]? = some x) (_ : (#[] : Array Value)[k]? = some v) : VRel c x v := by simp at hx

theorem rel_cons {c : Cx} {x0 : AVal} {v0 : Value} {xs : List AVal} {vs : List Value} (h0 : VRel c x0 v0) (h : ∀ (k : Nat) x v, xs[k]? = some x → vs.toArray[k]? = some v → VRel c x v) (k : Nat) (x : AVal) (v : Value)
    (hx : (x0 :: xs)[k]? = some x) (hv : (v0 :: vs).toArray[k]? = some v) : VRel c x v := by
  cases k with
  | zero => simp at hx hv; subst hx; subst hv; exact h0
  | succ k => exact h k x v (by simpa using hx) (by simpa using hv)

theorem wf_u64 {n : Int} (h : (Lit.int .u64 n).wf = true) : 0 ≤ n ∧ n < 18446744073709551616 := by
  simp [Lit.wf, IntKind.min, IntKind.max, IntKind.signed, IntKind.bits] at h
  omega

theorem wf_i64 {n : Int} (h : (Lit.int .i64 n).wf = true) : -9223372036854775808 ≤ n ∧ n < 9223372036854775808 := by
  simp [Lit.wf, IntKind.min, IntKind.max, IntKind.signed, IntKind.bits] at h
  omega

end Go.AM
end

section
set_option linter.unusedVariables false
namespace Go.AM
open Go

section
variable {fl : Bool} {P : Program} {n0 : Nat} {all : Array Oper} {K : St → Prop}

theorem W_reg {Q : Exit → St → Prop} {s : St} {k : List It} {id : Nat} {ops : List Oper} (h : ∀ K : St → Prop, (∀ s', unw P n0 k Q .normal s' → K s') → AO P n0 ops.toArray ops 0 K s) :
    AWP P n0 (.region id ops.toArray false) (unw P n0 k Q) s := by
  refine AWP_region ?_
  have := h (fun s => unw P n0 k Q .normal s) fun _ h => h
  simpa using this

theorem AO_stepE {o : Oper} {rest : List Oper} {i nx nx' : Nat} {tm tm' : List AVal} {hp hp' : Heap} {y : AVal} (hg : guardA all tm o = some true) (hs : astep P tm hp nx o = some (y, hp'))
    (ht : putT tm o.dst y = tm') (hn : nx + 1 = nx') (h : AO P n0 all rest (i + 1) K ⟨tm', hp', nx'⟩) : AO P n0 all (o :: rest) i K ⟨tm, hp, nx⟩ := by
  subst ht
  subst hn
  exact AO_step hg hs h

theorem AO_skipE {o : Oper} {rest : List Oper} {i nx nx' : Nat} {tm tm' : List AVal} {hp : Heap} (hg : guardA all tm o = some false)
    (ht : putT tm o.dst (.tuple []) = tm') (hn : nx + 1 = nx') (h : AO P n0 all rest (i + 1) K ⟨tm', hp, nx'⟩) : AO P n0 all (o :: rest) i K ⟨tm, hp, nx⟩ := by
  subst ht
  subst hn
  exact AO_skip hg h

theorem AO_callE {o : Oper} {rest : List Oper} {i nx nx' : Nat} {tm tm' : List AVal} {hp : Heap} {c : Call} {g : FuncId} {args : List AVal} {r : AVal} (hg : guardA all tm o = some true) (ho : o.op = .call c) (ht : target tm c = some (g, args))
    (hp' : PCall P g args (· = r)) (htm : putT tm o.dst r = tm') (hn : nx + 1 = nx') (h : AO P n0 all rest (i + 1) K ⟨tm', hp, nx'⟩) : AO P n0 all (o :: rest) i K ⟨tm, hp, nx⟩ := by
  subst htm
  subst hn
  exact AO_call0 hg ho ht hp' h

theorem W_drw {Q : Exit → St → Prop} {tm : List AVal} {hp : Heap} {nx : Nat} {k : List It} {id : Nat} {ops : List Oper} (hm : P.follows .mixedOrders = true) (hc : chk ops.toArray (preds ops.toArray) = true)
    (h : ∀ K : St → Prop, (∀ s', unw P n0 k Q .normal s' → K s') → DW true P ops.toArray nx K ops 0 tm hp []) : AWP P n0 (.region id ops.toArray true) (unw P n0 k Q) ⟨tm, hp, nx⟩ :=
  AWP_draw hm hc (h (fun s => unw P n0 k Q .normal s) (fun _ h => h) (by simp))

theorem W_drwF {Q : Exit → St → Prop} {tm : List AVal} {hp : Heap} {nx : Nat} {k : List It} {id : Nat} {ops : List Oper} (hm : P.follows .mixedOrders = true) (hc : chk ops.toArray (preds ops.toArray) = true)
    (h : ∀ K : St → Prop, (∀ s', unw P n0 k Q .normal s' → K s') → DW false P ops.toArray nx K ops 0 tm hp []) : AWP P n0 (.region id ops.toArray true) (unw P n0 k Q) ⟨tm, hp, nx⟩ :=
  AWP_draw hm hc (h (fun s => unw P n0 k Q .normal s) (fun _ h => h) (by simp))

theorem D_stepE {nx : Nat} {o : Oper} {rest : List Oper} {i i' : Nat} {tm tm' : List AVal} {hp hp' : Heap} {tc tc' : List (Bool × List Nat)} {y : AVal} (hg : guardA all tm o = some true) (hs : astep P tm hp (nx + i) o = some (y, hp'))
    (ht : putT tm o.dst y = tm') (hn : i + 1 = i') (hc : tc ++ [(isWriter o, touched tm o)] = tc') (h : DW fl P all nx K rest i' tm' hp' tc') : DW fl P all nx K (o :: rest) i tm hp tc := by
  subst ht
  subst hn
  subst hc
  exact fun hd => let ⟨ho, hd'⟩ := drop_cons hd; .step i tm hp tc o y hp' ho hg hs (h hd')

theorem D_skipE {nx : Nat} {o : Oper} {rest : List Oper} {i i' : Nat} {tm tm' : List AVal} {hp : Heap} {tc tc' : List (Bool × List Nat)} (hg : guardA all tm o = some false)
    (ht : putT tm o.dst (.tuple []) = tm') (hn : i + 1 = i') (hc : tc ++ [(false, [])] = tc') (h : DW fl P all nx K rest i' tm' hp tc') : DW fl P all nx K (o :: rest) i tm hp tc := by
  subst ht
  subst hn
  subst hc
  exact D_skip hg h

theorem D_callE {nx : Nat} {o : Oper} {rest : List Oper} {i i' : Nat} {tm tm' : List AVal} {hp : Heap} {tc tc' : List (Bool × List Nat)} {c : Call} {g : FuncId} {args : List AVal} {r : AVal} (hg : guardA all tm o = some true) (ho : o.op = .call c) (ht : target tm c = some (g, args))
    (hp' : PCall P g args (· = r)) (htm : putT tm o.dst r = tm') (hn : i + 1 = i') (hc : tc ++ [(false, [])] = tc') (h : DW fl P all nx K rest i' tm' hp tc') : DW fl P all nx K (o :: rest) i tm hp tc := by
  subst htm
  subst hn
  subst hc
  exact D_call0 hg ho ht hp' h

theorem D_end {nx n : Nat} {i : Nat} {tm : List AVal} {h : Heap} {tc : List (Bool × List Nat)} (hi : i = all.size) (hind : indepB i nx (preds all) tc = true) (hn : nx + i = n) (hk : K ⟨tm, h, n⟩) : DW fl P all nx K [] i tm h tc := by
  subst hn
  exact D_nil hi hind hk

theorem guardA_none {tm : List AVal} {o : Oper} (hg : o.guard = none) : guardA all tm o = some true := by
  unfold guardA; rw [hg]

theorem guardA_at {tm : List AVal} {o : Oper} {j : Nat} {want : Bool} {d : Tmp} {b : Bool} (hg : o.guard = some (j, want)) (hd : (all[j]?).bind (·.dst) = some d) (hb : tm[d]? = some (.bool b)) : guardA all tm o = some (b == want) := by
  unfold guardA
  rw [hg]
  simp only [hd, List.getD_eq_getElem?_getD, hb, Option.getD_some]

theorem guardA_yes {tm : List AVal} {o : Oper} {j : Nat} {want : Bool} {d : Tmp} {b : Bool} (hg : o.guard = some (j, want)) (hd : (all[j]?).bind (·.dst) = some d) (hb : tm[d]? = some (.bool b)) (hw : b = want) : guardA all tm o = some true := by
  rw [guardA_at hg hd hb, hw, beq_self_eq_true]

theorem guardA_no {tm : List AVal} {o : Oper} {j : Nat} {want : Bool} {d : Tmp} {b : Bool} (hg : o.guard = some (j, want)) (hd : (all[j]?).bind (·.dst) = some d) (hb : tm[d]? = some (.bool b)) (hw : (!b) = want) : guardA all tm o = some false := by
  rw [guardA_at hg hd hb, ← hw]
  cases b <;> rfl

theorem guardA_gone {tm : List AVal} {o : Oper} {j : Nat} {want : Bool} {d : Tmp} (hg : o.guard = some (j, want)) (hd : (all[j]?).bind (·.dst) = some d) (hb : tm[d]? = some (.tuple [])) : guardA all tm o = some false := by
  unfold guardA
  rw [hg]
  simp only [hd, List.getD_eq_getElem?_getD, hb, Option.getD_some]

theorem guardA_noT {tm : List AVal} {o : Oper} {j : Nat} {d : Tmp} {b : Bool} (hg : o.guard = some (j, true)) (hd : (all[j]?).bind (·.dst) = some d) (hb : tm[d]? = some (.bool b)) (hw : b = false) : guardA all tm o = some false := by
  rw [guardA_at hg hd hb, hw]; rfl

theorem guardA_noF {tm : List AVal} {o : Oper} {j : Nat} {d : Tmp} {b : Bool} (hg : o.guard = some (j, false)) (hd : (all[j]?).bind (·.dst) = some d) (hb : tm[d]? = some (.bool b)) (hw : b = true) : guardA all tm o = some false := by
  rw [guardA_at hg hd hb, hw]; rfl

theorem set_same {tm : List AVal} {d : Nat} {x : AVal} (h : tm[d]? = some x) : tm.set d x = tm := by
  apply List.ext_getElem?
  intro k
  rw [List.getElem?_set]
  split
  · rename_i e
    subst e
    rw [h, if_pos (List.getElem?_eq_some_iff.1 h).1]
  · rfl

/-- A guard that is not known yet: the one or the other. -/
theorem AO_split {rest : List Oper} {i nx : Nat} {tm t1 t2 : List AVal} {hp : Heap} {o : Oper} {j : Nat} {want : Bool} {d : Tmp} {b : Bool} (hg : o.guard = some (j, want)) (hd : (all[j]?).bind (·.dst) = some d) (hb : tm[d]? = some (.bool b))
    (e1 : tm.set d (.bool true) = t1) (e2 : tm.set d (.bool false) = t2) (h1 : b = true → AO P n0 all (o :: rest) i K ⟨t1, hp, nx⟩) (h2 : b = false → AO P n0 all (o :: rest) i K ⟨t2, hp, nx⟩) : AO P n0 all (o :: rest) i K ⟨tm, hp, nx⟩ := by
  cases b with
  | true => rw [set_same hb] at e1; subst e1; exact h1 rfl
  | false => rw [set_same hb] at e2; subst e2; exact h2 rfl

theorem D_split {nx : Nat} {rest : List Oper} {i : Nat} {tm t1 t2 : List AVal} {hp : Heap} {tc : List (Bool × List Nat)} {o : Oper} {j : Nat} {want : Bool} {d : Tmp} {b : Bool} (hg : o.guard = some (j, want)) (hd : (all[j]?).bind (·.dst) = some d) (hb : tm[d]? = some (.bool b))
    (e1 : tm.set d (.bool true) = t1) (e2 : tm.set d (.bool false) = t2) (h1 : b = true → DW fl P all nx K (o :: rest) i t1 hp tc) (h2 : b = false → DW fl P all nx K (o :: rest) i t2 hp tc) : DW fl P all nx K (o :: rest) i tm hp tc := by
  cases b with
  | true => rw [set_same hb] at e1; subst e1; exact h1 rfl
  | false => rw [set_same hb] at e2; subst e2; exact h2 rfl

/-- A condition, and the slot is what it turned out to be. -/
theorem W_condE {n0 : Nat} {Q : Exit → St → Prop} {tm t1 t2 : List AVal} {hp : Heap} {nx : Nat} {k : List It} {t : Tmp} {x y : Code} {b : Bool} (hb : tm[t]? = some (.bool b)) (e1 : tm.set t (.bool true) = t1) (e2 : tm.set t (.bool false) = t2)
    (h1 : b = true → AWP P n0 x (unw P n0 k Q) ⟨t1, hp, nx⟩) (h2 : b = false → AWP P n0 y (unw P n0 k Q) ⟨t2, hp, nx⟩) : AWP P n0 (.cond (.tmp t) x y) (unw P n0 k Q) ⟨tm, hp, nx⟩ := by
  refine W_cond (b := b) ?_ (fun h => ?_) (fun h => ?_)
  · simp only [ev, List.getD_eq_getElem?_getD, hb, Option.getD_some]
  · subst h; rw [set_same hb] at e1; subst e1; exact h1 rfl
  · subst h; rw [set_same hb] at e2; subst e2; exact h2 rfl

end
end Go.AM
end

section
namespace Go.AM
open Go

def dropL : List AVal → List AVal → Prop
  | [], [] => True
  | x :: xs, y :: ys => (y = .junk ∨ y = x) ∧ dropL xs ys
  | _, _ => False

theorem dropL_len : ∀ {xs ys : List AVal}, dropL xs ys → ys.length = xs.length
  | [], [], _ => rfl
  | _ :: _, _ :: _, h => by simp [dropL_len h.2]
  | [], _ :: _, h => h.elim
  | _ :: _, [], h => h.elim

theorem dropL_at : ∀ {xs ys : List AVal}, dropL xs ys → ∀ (i : Nat) y, ys[i]? = some y → y = .junk ∨ xs[i]? = some y
  | [], [], _, i, y, hy => by simp at hy
  | x :: xs, z :: ys, h, 0, y, hy => by
    simp at hy
    subst hy
    rcases h.1 with h1 | h1
    · exact .inl h1
    · exact .inr (by simp [h1])
  | x :: xs, z :: ys, h, i + 1, y, hy => by
    simp at hy
    have := dropL_at h.2 i y hy
    simpa using this
  | [], _ :: _, h, _, _, _ => h.elim
  | _ :: _, [], h, _, _, _ => h.elim

theorem dropL_nil : dropL [] [] := trivial
theorem dropL_keep {x : AVal} {xs ys : List AVal} (h : dropL xs ys) : dropL (x :: xs) (x :: ys) := ⟨.inr rfl, h⟩
theorem dropL_junk {x : AVal} {xs ys : List AVal} (h : dropL xs ys) : dropL (x :: xs) (.junk :: ys) := ⟨.inl rfl, h⟩

/-- Only slots are given up. -/
structure Drop (s s' : St) : Prop where
  tmps : dropL s.tmps s'.tmps
  h : s'.h = s.h
  nx : s'.nx = s.nx

theorem Drop.weak {n0 : Nat} {ext : Nat → Prop} {β : Nat → Option Nat} {s s' : St} {a : Act} {w : World} (d : Drop s s') (i : SIn n0 ext β s a w) : Weak n0 s s' := by
  refine ⟨dropL_len d.tmps, dropL_at d.tmps, fun id o h => by rw [d.h] at h; exact h, fun x hx => ?_, fun id o h => by rw [d.h] at h; rw [d.nx]; exact i.heap.nm id o h, ?_⟩
  · obtain ⟨k, hk⟩ := List.getElem?_of_mem hx
    rcases dropL_at d.tmps k x hk with h | h
    · subst h; exact .junk
    · rw [d.nx]; exact i.nm x (List.mem_of_getElem? h)
  · rw [d.nx]
    rcases Nat.eq_zero_or_pos n0 with h | h
    · omega
    · have := i.low (n0 - 1) (by omega)
      have : n0 - 1 < s.nx := this
      omega

section
variable {P : Program} {n0 : Nat} {Q : Exit → St → Prop} {s : St} {k : List It}

/-- A loop: what holds at the beginning of a round, with a number that falls. -/
theorem W_while {c : Code} (I : Nat → St → Prop) (n : Nat) (s' : St) (h0 : I n s') (hd : Drop s s')
    (round : ∀ n s, I n s → AWP P n0 c (unw P n0 [] (thenQ (fun s' => ∃ m, m < n ∧ ∃ s'', I m s'' ∧ Drop s' s'') (unw P n0 k Q))) s) : AWP P n0 (.loop c) (unw P n0 k Q) s := by
  intro ext β a w i
  obtain ⟨i', g'⟩ := i.weak (hd.weak i)
  refine wp_loop_n (P := P) (fun m a' w' => ∃ β' s', I m s' ∧ SIn n0 ext β' s' a' w' ∧ Goes n0 ext β s.h w β' s'.h w') ?_ n a w ⟨β, s', h0, i', g'⟩
  rintro m a' w' ⟨β', s', hI, i', g⟩
  refine wp_mono (round m s' hI ext β' a' w' i') ?_
  rintro e a2 w2 ⟨β2, s2, q, i2, g2⟩
  cases e with
  | normal =>
    obtain ⟨m', hm, s3, hI3, k⟩ := q
    obtain ⟨i3, g3⟩ := i2.weak (k.weak i2)
    exact ⟨m', hm, β2, s3, hI3, i3, (g.trans g2).trans g3⟩
  | exit id => exact ⟨β2, s2, q, i2, g.trans g2⟩
  | goto l => exact ⟨β2, s2, q, i2, g.trans g2⟩
  | ret => exact ⟨β2, s2, q, i2, g.trans g2⟩
  | panic ch => exact ⟨β2, s2, q, i2, g.trans g2⟩
  | outgrown => exact ⟨β2, s2, q, i2, g.trans g2⟩

theorem L_exit {F : St → Prop} {id : Nat} (h : unw P n0 k Q (.exit id) s) : unw P n0 [] (thenQ F (unw P n0 k Q)) (.exit id) s := h
theorem L_ret {F : St → Prop} (h : unw P n0 k Q .ret s) : unw P n0 [] (thenQ F (unw P n0 k Q)) .ret s := h
theorem L_next {F : St → Prop} (h : F s) : unw P n0 [] (thenQ F (unw P n0 k Q)) .normal s := h

/-- Slots are given up, and something is known of what stays. -/
theorem W_drop {c : Code} (s' : St) (hd : Drop s s') (h : AWP P n0 c (unw P n0 k Q) s') : AWP P n0 c (unw P n0 k Q) s := by
  intro ext β a w i
  obtain ⟨i', g⟩ := i.weak (hd.weak i)
  exact wp_mono (h ext β a w i') fun _ _ _ p => p.after g

end
end Go.AM
end

section
namespace Go.AM
open Go

/-- What a row of abstract cells is, by its type. -/
def Shp (P : Program) : Nat → TypeId → List AVal → Prop
  | 0, _, _ => False
  | m + 1, t, xs =>
    match P.underlying t with
    | some .bool => ∃ b, xs = [.bool b]
    | some (.int k) => ∃ n, xs = [.int k n] ∧ (Lit.int k n).wf = true
    | some .string => ∃ s : ByteArray, xs = [.str s] ∧ s.size ≤ maxLen
    | some (.slice e) => P.cellsOf e = 0 ∨ ∃ rows lim, xs = [.sl rows lim] ∧ rows.length ≤ maxLen ∧ ∀ r, r ∈ rows → Shp P m e r
    | some (.struct fs) => ∃ parts : List (List AVal), xs = parts.flatten ∧ parts.length = fs.toList.length ∧ ∀ (j : Nat) f ys, fs.toList[j]? = some f → parts[j]? = some ys → Shp P m f.type ys
    | some (.array n e) => ∃ parts : List (List AVal), xs = parts.flatten ∧ parts.length = n ∧ ∀ ys, ys ∈ parts → Shp P m e ys
    | _ => True

/-- What is known of the cells. -/
structure Red (P : Program) (w : World) (m : Nat) (t : TypeId) (cs : List Value) (xs : List AVal) : Prop where
  len : xs.length = cs.length
  size : cs.length = P.cellsOf t
  rel : ∀ (i : Nat) x v, xs[i]? = some x → cs[i]? = some v → VRel (cx (fun _ => False) (fun _ => none) [] w) x v ∧ v.oneCell' = true
  fz : ∀ x, x ∈ xs → Fz x
  shp : Shp P m t xs

/-- Rows that lie one behind the other. -/
theorem red_flat {P : Program} {w : World} {m : Nat} : ∀ (ts : List TypeId) (cs : List Value), cs.length = (ts.map P.cellsOf).sum →
    (∀ (j : Nat) t, ts[j]? = some t → ∃ xs, Red P w m t ((cs.drop ((ts.take j).map P.cellsOf).sum).take (P.cellsOf t)) xs) →
    ∃ parts : List (List AVal), parts.length = ts.length ∧ parts.flatten.length = cs.length ∧ (∀ (i : Nat) x v, parts.flatten[i]? = some x → cs[i]? = some v → VRel (cx (fun _ => False) (fun _ => none) [] w) x v ∧ v.oneCell' = true) ∧
      (∀ x, x ∈ parts.flatten → Fz x) ∧ ∀ (j : Nat) t ys, ts[j]? = some t → parts[j]? = some ys → Shp P m t ys
  | [], cs, hl, _ => ⟨[], rfl, by simpa using hl.symm, fun i x v hx => by simp at hx, fun x hx => by simp at hx, fun j t ys ht => by simp at ht⟩
  | t :: ts, cs, hl, h => by
    simp only [List.map_cons, List.sum_cons] at hl
    obtain ⟨xs, r⟩ := h 0 t rfl
    simp only [List.take_zero, List.map_nil, List.sum_nil, List.drop_zero] at r
    have hlen : xs.length = P.cellsOf t := by rw [r.len, r.size]
    obtain ⟨parts, p1, p2, p3, p4, p5⟩ := red_flat (P := P) (w := w) (m := m) ts (cs.drop (P.cellsOf t)) (by rw [List.length_drop]; omega) fun j u hu => by
      have := h (j + 1) u (by simpa using hu)
      simp only [List.take_succ_cons, List.map_cons, List.sum_cons] at this
      rw [List.drop_drop]
      exact this
    refine ⟨xs :: parts, by simp [p1], ?_, fun i x v hx hv => ?_, fun x hx => ?_, fun j u ys hu hy => ?_⟩
    · simp only [List.flatten_cons, List.length_append, p2, List.length_drop, hlen]
      omega
    · rw [List.flatten_cons] at hx
      by_cases hi : i < xs.length
      · rw [List.getElem?_append_left hi] at hx
        refine r.rel i x v hx ?_
        rw [List.getElem?_take_of_lt (by omega)]
        exact hv
      · rw [List.getElem?_append_right (by omega)] at hx
        refine p3 (i - xs.length) x v hx ?_
        rw [List.getElem?_drop, hlen]
        have : P.cellsOf t + (i - P.cellsOf t) = i := by omega
        rw [this]
        exact hv
    · rw [List.flatten_cons, List.mem_append] at hx
      exact hx.elim (r.fz x) (p4 x)
    · cases j with
      | zero =>
        simp at hu hy
        subst hu
        subst hy
        exact r.shp
      | succ j => exact p5 j u ys (by simpa using hu) (by simpa using hy)

end Go.AM
end

section
namespace Go.AM
open Go

variable {P : Program} {w : World} {H : Type} {enc : TypeId × Value → H} {base : Nat} {spare : Nat → Bool} {held : Bool}

theorem red_leaf {m : Nat} {t : TypeId} {v : Value} {x : AVal} (hC : P.cellsOf t = 1) (hv : VRel (cx (fun _ => False) (fun _ => none) [] w) x v) (ho : v.oneCell' = true) (hf : Fz x) (hs : Shp P m t [x]) : Red P w m t [v] [x] :=
  ⟨rfl, hC.symm, fun i y u hy hu => by
    cases i with
    | zero => simp at hy hu; subst hy; subst hu; exact ⟨hv, ho⟩
    | succ i => simp at hy, fun y hy => by simp at hy; subst hy; exact hf, hs⟩

theorem spot_of {a : Addr} {v : Value} (h : w.cell? a = some v) : a.spot = none := by
  unfold World.cell? at h
  split at h
  · split at h
    · cases h
    · rename_i hs; simpa using hs
  · cases h

theorem add_plain {a : Addr} (h : a.spot = none) (n : Nat) : a.add n = ⟨a.block, a.off + n, none⟩ := by
  obtain ⟨b, o, s⟩ := a
  simp at h
  subst h
  unfold Addr.add
  split
  · rename_i hn; subst hn; rfl
  · rfl

theorem red_of (hl : laidOutB P = true) : ∀ (m : Nat) (t : TypeId) (cs : List Value) (d : DataW H) (ps : List MemPlace), t < P.types.size → DataW.trod enc P w base spare held m t cs = some (d, ps) → ∃ xs, Red P w m t cs xs := by
  intro m
  induction m with
  | zero => intro t cs d ps _ h; simp [DataW.trod] at h
  | succ m ih =>
    intro t cs d ps ht h
    have hrow := rowFine_of hl ht
    have junk : ∀ v : Value, P.cellsOf t = 1 → v.oneCell' = true → Shp P (m + 1) t [.junk] → ∃ xs, Red P w (m + 1) t [v] xs := fun v h1 h2 h3 => ⟨[.junk], red_leaf h1 (.junk v) h2 .junk h3⟩
    rw [DataW.trod.eq_def] at h
    simp only at h
    split at h
    case h_1 b hu =>
      refine ⟨[.bool b], red_leaf ?_ (.bool b) rfl (.bool b) ?_⟩
      · simpa [rowFine, isVar, ht, hu, kindOk] using hrow
      · simp [Shp, hu]
    case h_2 k k' n hu =>
      split at h
      case isFalse => cases h
      rename_i hk
      obtain ⟨rfl, hk⟩ := hk
      refine ⟨[.int k' n], red_leaf ?_ (.int _ n) rfl (.int _ n) ?_⟩
      · simpa [rowFine, isVar, ht, hu, kindOk] using hrow
      · simp [Shp, hu, hk]
    case h_3 k k' b hu =>
      refine junk _ ?_ rfl ?_
      · simpa [rowFine, isVar, ht, hu, kindOk] using hrow
      · simp [Shp, hu]
    case h_4 s hu =>
      split at h
      case isFalse => cases h
      rename_i hk
      refine ⟨[.str s], red_leaf ?_ (.str s) rfl (.str s) ?_⟩
      · simpa [rowFine, isVar, ht, hu, kindOk] using hrow
      · simp [Shp, hu, hk]
    case h_5 e hu =>
      refine junk _ ?_ rfl ?_
      · have := hrow; simp [rowFine, isVar, ht, hu, kindOk] at this; exact this.2
      · simp [Shp, hu]
    case h_6 e a hu =>
      refine junk _ ?_ rfl ?_
      · have := hrow; simp [rowFine, isVar, ht, hu, kindOk] at this; exact this.2
      · simp [Shp, hu]
    case h_7 e hu =>
      refine ⟨[.sl [] (some 0)], red_leaf ?_ ?_ rfl ?_ ?_⟩
      · have := hrow; simp [rowFine, isVar, ht, hu, kindOk] at this; exact this.2
      · exact .sl [] (some 0) none 0 0 0 0 (fun _ _ => undef) (Nat.le_refl _) (by simp) (by simp) (by simp) (by simp) (by simp)
      · exact .sl [] (some 0) (by simp)
      · simp [Shp, hu]
    case h_8 e a len cap hu =>
      have hC : P.cellsOf t = 1 := by have := hrow; simp [rowFine, isVar, ht, hu, kindOk] at this; exact this.2
      by_cases hz : P.cellsOf e = 0
      · exact junk _ hC rfl (by simp [Shp, hu, hz])
      split at h
      case isFalse => cases h
      rename_i hb
      rw [Option.bind_eq_some_iff] at h
      obtain ⟨elems, he, _⟩ := h
      have hx : ∀ i, ∃ xs, i < len → ∃ cs', w.cells? base (a.add (i * P.cellsOf e)) (P.cellsOf e) = some cs' ∧ Red P w m e cs' xs := fun i => by
        by_cases hi : i < len
        · have h1 := mapM_some_get he i i (by simp [hi])
          have h2 : i < elems.length := by have := mapM_some_length he; simp at this; omega
          rw [List.getElem?_eq_getElem h2, Option.bind_eq_some_iff] at h1
          obtain ⟨cs', h3, h4⟩ := h1
          obtain ⟨xs, h5⟩ := ih e cs' elems[i].1 elems[i].2 (kid_slice hl ht hu) h4
          exact ⟨xs, fun _ => ⟨cs', h3, h5⟩⟩
        · exact ⟨[], fun h => absurd h hi⟩
      obtain ⟨f, hf⟩ := Classical.axiomOfChoice hx
      have hlen : ((List.range len).map f).length = len := by simp
      have hat : ∀ (i : Nat) r, ((List.range len).map f)[i]? = some r → i < len ∧ r = f i := fun i r hr => by
        rw [List.getElem?_map] at hr
        obtain ⟨k, hk, rfl⟩ := Option.map_eq_some_iff.1 hr
        obtain ⟨h1, h2⟩ := List.getElem?_eq_some_iff.1 hk
        simp at h1 h2
        subst h2
        exact ⟨h1, rfl⟩
      have hspot : 0 < len → a.spot = none := fun h0 => by
        obtain ⟨cs', h1, h2⟩ := hf 0 h0
        obtain ⟨_, h3, h4⟩ := World.cells?_some h1
        have h5 := h4 0 (by omega)
        rw [Nat.zero_mul] at h5
        have h6 : 0 < cs'.length := by omega
        rw [List.getElem?_eq_getElem h6] at h5
        exact spot_of h5
      have hcell : ∀ (i : Nat) r (j : Nat) x, ((List.range len).map f)[i]? = some r → r[j]? = some x → ∃ v, w.cell? ⟨a.block, a.off + (i * P.cellsOf e + j), none⟩ = some v ∧ VRel (cx (fun _ => False) (fun _ => none) [] w) x v ∧ v.oneCell' = true := fun i r j x hr hj => by
        obtain ⟨hi, rfl⟩ := hat i r hr
        obtain ⟨cs', h1, h2⟩ := hf i hi
        obtain ⟨_, h3, h4⟩ := World.cells?_some h1
        have hjl : j < cs'.length := by rw [← h2.len]; exact (List.getElem?_eq_some_iff.1 hj).1
        have h5 := h4 j (by omega)
        have hs := hspot (by omega)
        rw [add_plain hs, add_plain rfl, List.getElem?_eq_getElem hjl] at h5
        refine ⟨cs'[j], ?_, h2.rel j x _ hj (List.getElem?_eq_getElem hjl)⟩
        rw [← h5]
        simp [Nat.add_assoc]
      refine ⟨[.sl ((List.range len).map f) none], red_leaf hC ?_ rfl ?_ ?_⟩
      · have key : VRel (cx (fun _ => False) (fun _ => none) [] w) (.sl ((List.range len).map f) none) (.slice (some a) ((List.range len).map f).length cap) := by
          refine .sl _ none (some a) cap (P.cellsOf e) a.block a.off (fun i j => (w.cell? ⟨a.block, a.off + (i * P.cellsOf e + j), none⟩).getD undef) (by rw [hlen]; exact hb.2.1) (fun l hl => by cases hl) (fun r hr => ?_) (fun hne => ?_) (fun i r j x hr hj => ?_) (fun i r j x hr hj => ?_)
          · obtain ⟨i, hi⟩ := List.getElem?_of_mem hr
            obtain ⟨h1, rfl⟩ := hat i r hi
            obtain ⟨cs', h2, h3⟩ := hf i h1
            rw [h3.len, h3.size]
          · have : 0 < len := by
              rcases Nat.eq_zero_or_pos len with h0 | h0
              · subst h0; simp at hne
              · exact h0
            have hs := hspot this
            obtain ⟨b, o, s⟩ := a
            simp at hs
            subst hs
            rfl
          · obtain ⟨v, h1, h2, h3⟩ := hcell i r j x hr hj
            refine ⟨by simp [cx, owns, lk], ?_, ?_⟩
            · show w.cell? _ = _
              rw [h1]; rfl
            · rw [h1]; exact h3
          · obtain ⟨v, h1, h2, h3⟩ := hcell i r j x hr hj
            rw [h1]; exact h2
        rw [hlen] at key
        exact key
      · refine .sl _ none fun r hr x hx => ?_
        obtain ⟨i, hi⟩ := List.getElem?_of_mem hr
        obtain ⟨h1, rfl⟩ := hat i r hi
        obtain ⟨cs', h2, h3⟩ := hf i h1
        exact h3.fz x hx
      · simp only [Shp, hu]
        refine .inr ⟨_, _, rfl, by rw [hlen]; omega, fun r hr => ?_⟩
        obtain ⟨i, hi⟩ := List.getElem?_of_mem hr
        obtain ⟨h1, rfl⟩ := hat i r hi
        obtain ⟨cs', h2, h3⟩ := hf i h1
        exact h3.shp
    case h_9 cs0 _ _ fs hu =>
      split at h
      case isFalse => cases h
      rename_i hlen
      obtain ⟨k1, k2, k3⟩ := kid_struct hl ht hu
      rw [Option.map_eq_some_iff] at h
      obtain ⟨ys, he, _⟩ := h
      have hfl := mapM_some_length he
      have e0 : fs.toList.map (fun f => P.cellsOf f.type) = (fs.toList.map (·.type)).map P.cellsOf := by rw [List.map_map]; rfl
      obtain ⟨parts, p1, p2, p3, p4, p5⟩ := red_flat (P := P) (w := w) (m := m) (fs.toList.map (·.type)) cs0 (by rw [hlen, k2, e0]) fun j u hu' => by
        rw [List.getElem?_map] at hu'
        obtain ⟨f, hf, rfl⟩ := Option.map_eq_some_iff.1 hu'
        have h1 := mapM_some_get he j f hf
        have h2 : j < ys.length := by have := (List.getElem?_eq_some_iff.1 hf).1; omega
        rw [List.getElem?_eq_getElem h2, k3 j f hf] at h1
        have := ih f.type _ ys[j].1 ys[j].2 (k1 f (List.mem_of_getElem? hf)) h1
        rw [← List.map_take, List.map_map]
        exact this
      refine ⟨parts.flatten, p2, hlen, p3, p4, ?_⟩
      simp only [Shp, hu]
      exact ⟨parts, rfl, by simpa using p1, fun j f ys hf hy => p5 j f.type ys (by simp [hf]) hy⟩
    case h_10 cs0 _ _ n e hu =>
      split at h
      case isFalse => cases h
      rename_i hlen
      obtain ⟨k1, k2⟩ := kid_array hl ht hu
      rw [Option.map_eq_some_iff] at h
      obtain ⟨ys, he, _⟩ := h
      have hfl := mapM_some_length he
      have es : ∀ q : Nat, ((List.replicate q e).map P.cellsOf).sum = q * P.cellsOf e := fun q => by simp
      obtain ⟨parts, p1, p2, p3, p4, p5⟩ := red_flat (P := P) (w := w) (m := m) (List.replicate n e) cs0 (by rw [hlen, k2, es]) fun j u hu' => by
        rw [List.getElem?_replicate] at hu'
        split at hu'
        case isFalse => cases hu'
        rename_i hj
        injection hu' with hu'
        subst hu'
        have h1 := mapM_some_get he j j (by simp [hj])
        have h2 : j < ys.length := by simp at hfl; omega
        rw [List.getElem?_eq_getElem h2] at h1
        have := ih e _ ys[j].1 ys[j].2 k1 h1
        rw [List.take_replicate, Nat.min_eq_left (by omega), es]
        exact this
      refine ⟨parts.flatten, p2, hlen, p3, p4, ?_⟩
      simp only [Shp, hu]
      refine ⟨parts, rfl, by simpa using p1, fun ys hy => ?_⟩
      obtain ⟨j, hj⟩ := List.getElem?_of_mem hy
      have hjl : j < n := by have := (List.getElem?_eq_some_iff.1 hj).1; simp at p1; omega
      exact p5 j e ys (by rw [List.getElem?_replicate, if_pos hjl]) hj
    all_goals first
      | (rename_i hu; exact junk _ (by simpa [rowFine, isVar, ht, hu, kindOk] using hrow) rfl (by simp [Shp, hu]))
      | cases h

end Go.AM
end

section
namespace Go.AM
open Go

variable {P : Program} {w : World} {H : Type} {enc : TypeId × Value → H} {base : Nat} {spare : Nat → Bool} {held : Bool}

/-- A struct or an array. -/
theorem arg_agg (hl : laidOutB P = true) {t : TypeId} {cs : Array Value} {d : DataW H} {ps : List MemPlace} (ht : t < P.types.size) (h : DataW.Trod enc P w base spare held t (.agg cs) d ps) :
    ∃ m xs, VRel (cx (fun _ => False) (fun _ => none) [] w) (.agg xs) (.agg cs) ∧ Fz (.agg xs) ∧ Shp P m t xs := by
  obtain ⟨m, h⟩ := h
  obtain ⟨xs, r⟩ := red_of hl m t _ d ps ht h
  have hl2 := r.len
  simp only [Value.cells, Array.length_toList] at hl2
  refine ⟨m, xs, .agg xs cs hl2.symm (fun i v hv => ?_) (fun i x v hx hv => (r.rel i x v hx (by simpa [Value.cells] using hv)).1), .agg xs r.fz, r.shp⟩
  have hi : i < xs.length := by have := (Array.getElem?_eq_some_iff.1 hv).1; omega
  exact (r.rel i xs[i] v (List.getElem?_eq_getElem hi) (by simpa [Value.cells] using hv)).2

/-- A slice. -/
theorem arg_slice (hl : laidOutB P = true) {t : TypeId} {a : Option Addr} {len cap : Nat} {d : DataW H} {ps : List MemPlace} (ht : t < P.types.size) (h : DataW.Trod enc P w base spare held t (.slice a len cap) d ps) :
    ∃ m x, VRel (cx (fun _ => False) (fun _ => none) [] w) x (.slice a len cap) ∧ Fz x ∧ Shp P m t [x] := by
  obtain ⟨m, h⟩ := h
  obtain ⟨xs, r⟩ := red_of hl m t _ d ps ht h
  have hl2 := r.len
  simp only [Value.cells, List.length_cons, List.length_nil] at hl2
  obtain ⟨x, rfl⟩ : ∃ x, xs = [x] := List.length_eq_one_iff.1 (by simpa using hl2)
  exact ⟨m, x, (r.rel 0 x _ rfl rfl).1, r.fz x (by simp), r.shp⟩

end Go.AM
end

section
namespace Go.AM
open Go

/-- A function is called over an abstract heap; it leaves another one. -/
structure HCall (P : Program) (g : FuncId) (args : List AVal) (h : Heap) (nx : Nat) (Q : AVal → Heap → Nat → Prop) : Prop where
  callable : Callable P g
  run : ∀ (ext : Nat → Prop) (β : Nat → Option Nat) (w : World) (vs : Array Value), HIn ext β (Lt nx) h w → vs.size = args.length → (∀ x, x ∈ args → Nm (Lt nx) x) →
    (∀ (k : Nat) x v, args[k]? = some x → vs[k]? = some v → VRel (cx ext β h w) x v) →
    Calls P g vs w fun e w' => ∃ v r β' h' nx', e = .returned v ∧ Q r h' nx' ∧ nx ≤ nx' ∧ HIn ext β' (Lt nx') h' w' ∧ Nm (Lt nx') r ∧ VRel (cx ext β' h' w') r v ∧
      Evo (owns β h) w (owns β' h') w' ∧ Step (Lt nx) (cx ext β h w) (cx ext β' h' w')

theorem HCall.mono {P : Program} {g : FuncId} {args : List AVal} {h : Heap} {nx : Nat} {Q Q' : AVal → Heap → Nat → Prop} (c : HCall P g args h nx Q) (hq : ∀ r h n, Q r h n → Q' r h n) : HCall P g args h nx Q' :=
  ⟨c.callable, fun ext β w vs h1 h2 h3 h4 => (c.run ext β w vs h1 h2 h3 h4).mono fun _ _ ⟨v, r, β', h', nx', a, b, c⟩ => ⟨v, r, β', h', nx', a, hq _ _ _ b, c⟩⟩

/-- What the end of such a function has to be: objects may be left behind. -/
def retH (P : Program) (rs : List ResultVar) (Q : AVal → Heap → Nat → Prop) : Exit → St → Prop
  | .normal, s => ∃ xs h2, resAs P s rs = some xs ∧ (∀ id o, lk h2 id = some o → lk s.h id = some o) ∧ Q (packA xs) h2 s.nx
  | .ret, s => ∃ xs h2, resAs P s rs = some xs ∧ (∀ id o, lk h2 id = some o → lk s.h id = some o) ∧ Q (packA xs) h2 s.nx
  | _, _ => False

section
variable {P : Program} {n0 : Nat} {all : Array Oper} {K : St → Prop}

theorem resAs_nm {ext : Nat → Prop} {β : Nat → Option Nat} {s : St} {a : Act} {w : World} (i : SIn n0 ext β s a w) : ∀ {rs : List ResultVar} {xs : List AVal}, resAs P s rs = some xs → ∀ x, x ∈ xs → Nm (Lt s.nx) x
  | [], xs, h, x, hx => by simp [resAs] at h; subst h; cases hx
  | r :: rs, xs, h, x, hx => by
    simp only [resAs] at h
    split at h
    case h_2 => cases h
    rename_i y ys h1 h2
    injection h with h
    subst h
    rcases List.mem_cons.1 hx with rfl | hx
    · cases r with
      | tmp t =>
        simp only [resA] at h1
        injection h1 with h1
        subst h1
        exact i.nm_ev (.tmp t)
      | cell b t =>
        simp only [resA] at h1
        obtain ⟨u, _, _, h3⟩ := aload_ok i.heap (i.ev (.tmp b)) (i.nm_ev (.tmp b)) h1
        exact h3
    · exact resAs_nm i h2 x hx

theorem packA_nm {p : Nat → Prop} {xs : List AVal} (h : ∀ x, x ∈ xs → Nm p x) : Nm p (packA xs) := by
  match xs, h with
  | [], h => exact .tuple _ h
  | [x], h => exact h x (by simp)
  | x :: y :: xs, h => exact .tuple _ h

/-- A function over a heap, by its body. -/
theorem HCall_intro {g : FuncId} {args : List AVal} {h : Heap} {nx : Nat} {Q : AVal → Heap → Nat → Prop} {fn : Func} {c : Code} (hf : P.funcs[g]? = some fn) (hb : fn.body = some c) (hname : (fn.name == "runtime.NumGoroutine") = false)
    (hw : AWP P nx c (retH P fn.results.toList Q) ⟨args ++ List.replicate (fn.ntmps - args.length) .junk, h, nx⟩) : HCall P g args h nx Q := by
  refine ⟨⟨fn, hf, hname, by rw [hb]; rfl⟩, fun ext β w vs hin hl hnm hr => ?_⟩
  have i : SIn nx ext β ⟨args ++ List.replicate (fn.ntmps - args.length) .junk, h, nx⟩ { tmps := vs ++ Array.replicate (fn.ntmps - vs.size) undef, defers := [] } w := by
    refine ⟨hin, by simp [hl], fun k x v hx hv => ?_, fun x hx => ?_, rfl, fun j hj => hj⟩
    · by_cases hk : k < args.length
      · rw [List.getElem?_append_left hk] at hx
        rw [Array.getElem?_append_left (by rw [hl]; exact hk)] at hv
        exact hr k x v hx hv
      · rw [List.getElem?_append_right (by omega), List.getElem?_replicate] at hx
        split at hx
        · injection hx with hx; exact hx ▸ .junk v
        · cases hx
    · rcases List.mem_append.1 hx with hx | hx
      · exact hnm x hx
      · rw [List.mem_replicate] at hx; rw [hx.2]; exact .junk
  refine calls_of_wp hf hb (wp_mono (hw ext β _ w i) ?_)
  rintro e a' w' ⟨β', s', q, i', gs⟩
  have hfin : (∃ xs h2, resAs P s' fn.results.toList = some xs ∧ (∀ id o, lk h2 id = some o → lk s'.h id = some o) ∧ Q (packA xs) h2 s'.nx) →
      a'.defers = [] ∧ ∃ v, (results fn a'.tmps).run P w' = .ok v w' ∧ ∃ v' r β' h' nx', Ending.returned v = .returned v' ∧ Q r h' nx' ∧ nx ≤ nx' ∧ HIn ext β' (Lt nx') h' w' ∧ Nm (Lt nx') r ∧ VRel (cx ext β' h' w') r v' ∧
      Evo (owns β h) w (owns β' h') w' ∧ Step (Lt nx) (cx ext β h w) (cx ext β' h' w') := by
    rintro ⟨xs, h2, h1, h3, h4⟩
    obtain ⟨v, h5, h6⟩ := results_ok i' h1
    have hn := packA_nm (resAs_nm i' h1)
    have hle : nx ≤ s'.nx := by
      rcases Nat.lt_or_ge s'.nx nx with h8 | h8
      · exact absurd (i'.low s'.nx h8) (Nat.lt_irrefl _)
      · exact h8
    have hwk : Weak nx s' ⟨s'.tmps, h2, s'.nx⟩ := ⟨rfl, fun k x hx => .inr hx, h3, i'.nm, fun id ob ho => i'.heap.nm id ob (h3 id ob ho), hle⟩
    obtain ⟨i2, g2⟩ := i'.weak hwk
    have hst : Step (Lt s'.nx) (cx ext β' s'.h w') (cx ext β' h2 w') := by
      have hw2 : Weak s'.nx s' ⟨s'.tmps, h2, s'.nx⟩ := ⟨rfl, fun k x hx => .inr hx, h3, i'.nm, fun id ob ho => i'.heap.nm id ob (h3 id ob ho), Nat.le_refl _⟩
      have i3 : SIn s'.nx ext β' s' a' w' := ⟨i'.heap, i'.size, i'.rel, i'.nm, i'.defers, fun j hj => hj⟩
      exact (i3.weak hw2).2.step
    have gg := gs.trans g2
    exact ⟨i'.defers, v, h5, v, packA xs, β', h2, s'.nx, rfl, h4, hle, i2.heap, hn, h6.step hst hn, gg.evo, gg.step⟩
  cases e with
  | normal => exact hfin q
  | ret => exact hfin q
  | exit id => exact q.elim
  | goto l => exact q.elim
  | panic c => exact q.elim
  | outgrown => exact q.elim

/-- Such a call in a row of operations. -/
theorem AO_hcall {o : Oper} {rest : List Oper} {i : Nat} {s : St} {c : Call} {g : FuncId} {args : List AVal} {Q : AVal → Heap → Nat → Prop} (hg : guardA all s.tmps o = some true) (ho : o.op = .call c) (ht : target s.tmps c = some (g, args))
    (hp : HCall P g args s.h s.nx Q) (h : ∀ r h' nx', Q r h' nx' → AO P n0 all rest (i + 1) K ⟨putT s.tmps o.dst r, h', nx'⟩) : AO P n0 all (o :: rest) i K s := by
  refine AO_cons fun ext β a w hs hoo Q' next hnext => ?_
  rw [guard_ok hs hg, if_pos rfl]
  refine .inl ?_
  obtain ⟨vs, hrun, hsz, hrel⟩ := target_ok hs ho ht hp.callable
  unfold Oper.wp
  rw [hrun, Oper.upon_enter]
  have hnm : ∀ x, x ∈ args → Nm (Lt s.nx) x := by
    intro x hx
    unfold target at ht
    split at ht
    case h_2 => cases ht
    rename_i f hf
    split at ht
    case h_2 => cases ht
    rename_i g' first captured hev
    injection ht with ht
    injection ht with e1 e2
    subst e1 e2
    have hn := hs.nm_ev f
    rw [hev] at hn
    cases hn with | func _ _ _ hn1 hn2 =>
    rcases List.mem_append.1 hx with hx | hx
    · rcases List.mem_append.1 hx with hx | hx
      · exact hn1 x hx
      · exact (evs_rel hs c.args).2.2 x hx
    · exact hn2 x hx
  refine (hp.run ext β w vs hs.heap hsz hnm hrel).mono ?_
  rintro e w' ⟨v, r, β', h', nx', rfl, hq, hle, hin, hn, hv, hev, hst⟩
  have hs3 : SIn n0 ext β' ⟨putT s.tmps o.dst r, h', nx'⟩ (a.put o.dst v) w' := hs.put hin (fun j hj => Nat.lt_of_lt_of_le hj hle) hst hv hn o.dst
  have hlow : n0 ≤ s.nx := by
    rcases Nat.lt_or_ge s.nx n0 with h8 | h8
    · exact absurd (hs.low s.nx h8) (Nat.lt_irrefl _)
    · exact h8
  exact hnext β' _ _ _ (h r h' nx' hq) hs3 ⟨hev, hst.weaken fun j hj => Nat.lt_of_lt_of_le hj hlow⟩

theorem AO_hcallE {o : Oper} {rest : List Oper} {i nx nx' : Nat} {tm tm' : List AVal} {hp hp' : Heap} {c : Call} {g : FuncId} {args : List AVal} {r : AVal} (hg : guardA all tm o = some true) (ho : o.op = .call c) (ht : target tm c = some (g, args))
    (hc : HCall P g args hp nx fun a b d => a = r ∧ b = hp' ∧ d = nx') (htm : putT tm o.dst r = tm') (h : AO P n0 all rest (i + 1) K ⟨tm', hp', nx'⟩) : AO P n0 all (o :: rest) i K ⟨tm, hp, nx⟩ := by
  subst htm
  refine AO_hcall hg ho ht hc ?_
  rintro a b d ⟨rfl, rfl, rfl⟩
  exact h

/-- A call whose arguments stand in objects; numbers, texts, truths come back. -/
theorem AO_callFE {o : Oper} {rest : List Oper} {i nx nx' : Nat} {tm tm' : List AVal} {hp : Heap} {c : Call} {g : FuncId} {args args' : List AVal} {r : AVal} (hg : guardA all tm o = some true) (ho : o.op = .call c) (ht : target tm c = some (g, args))
    (hc : PCall P g args' (· = r)) (hlen : args'.length = args.length) (hf : ∀ (k : Nat) x y, args[k]? = some x → args'[k]? = some y → Frz hp (fun _ => True) x y) (hfl : Flat r)
    (htm : putT tm o.dst r = tm') (hn : nx + 1 = nx') (h : AO P n0 all rest (i + 1) K ⟨tm', hp, nx'⟩) : AO P n0 all (o :: rest) i K ⟨tm, hp, nx⟩ := by
  subst htm
  subst hn
  refine AO_callF hg ho ht hc hlen hf ?_
  rintro r' rfl
  exact ⟨hfl, h⟩

end
end Go.AM
end

section
namespace Go.AM
open Go

def forQ (id : Nat) (J : St → Prop) (R : Exit → St → Prop) : Exit → St → Prop
  | .exit i, s => if i = id then ∃ s', J s' ∧ Drop s s' else R (.exit i) s
  | e, s => R e s

section
variable {P : Program} {n0 : Nat} {Q : Exit → St → Prop} {s : St} {k : List It}

/-- A loop in its block: what holds at the beginning of a round, with a number that falls; what holds behind it. -/
theorem W_for {c : Code} {id : Nat} (I : Nat → St → Prop) (J : St → Prop) (n : Nat) (s' : St) (h0 : I n s') (hd : Drop s s') (after : ∀ s, J s → unw P n0 k Q .normal s)
    (round : ∀ n s, I n s → AWP P n0 c (unw P n0 [] (thenQ (fun s' => ∃ m, m < n ∧ ∃ s'', I m s'' ∧ Drop s' s'') (forQ id J (unw P n0 k Q)))) s) : AWP P n0 (.loop c) (unw P n0 (.blk id :: k) Q) s := by
  refine W_while I n s' h0 hd fun m s1 hI => ?_
  intro ext β a w i
  refine wp_mono (round m s1 hI ext β a w i) ?_
  rintro e a2 w2 ⟨β2, s2, q, i2, g2⟩
  cases e with
  | normal => exact ⟨β2, s2, q, i2, g2⟩
  | exit j =>
    change forQ id J (unw P n0 k Q) (.exit j) s2 at q
    simp only [forQ] at q
    by_cases hj : j = id
    · rw [if_pos hj] at q
      obtain ⟨s3, hJ, hd3⟩ := q
      obtain ⟨i3, g3⟩ := i2.weak (hd3.weak i2)
      subst hj
      exact ⟨β2, s3, E_blk (after s3 hJ), i3, g2.trans g3⟩
    · rw [if_neg hj] at q
      exact ⟨β2, s2, E_blk_ne hj q, i2, g2⟩
  | goto l => exact ⟨β2, s2, q, i2, g2⟩
  | ret => exact ⟨β2, s2, q, i2, g2⟩
  | panic ch => exact ⟨β2, s2, q, i2, g2⟩
  | outgrown => exact ⟨β2, s2, q, i2, g2⟩

theorem F_exit {F : St → Prop} {id : Nat} {J : St → Prop} {R : Exit → St → Prop} (h : ∃ s', J s' ∧ Drop s s') : unw P n0 [] (thenQ F (forQ id J R)) (.exit id) s := by
  show forQ id J R (.exit id) s
  simp only [forQ, if_true]
  exact h
theorem F_ret {F : St → Prop} {id : Nat} {J : St → Prop} (h : unw P n0 k Q .ret s) : unw P n0 [] (thenQ F (forQ id J (unw P n0 k Q))) .ret s := h
theorem F_out {F : St → Prop} {id i : Nat} {J : St → Prop} (hi : ¬ i = id) (h : unw P n0 k Q (.exit i) s) : unw P n0 [] (thenQ F (forQ id J (unw P n0 k Q))) (.exit i) s := by
  show forQ id J _ (.exit i) s
  simp only [forQ, if_neg hi]
  exact h
theorem F_next {F : St → Prop} {R : Exit → St → Prop} (h : F s) : unw P n0 [] (thenQ F R) .normal s := h

end

/-- The objects' numbers are not known: those that were there stay below, the new ones stand above. -/
theorem indepB_shift {n n0 M m : Nat} {Pr : List Nat} {tc0 tc : List (Bool × List Nat)} (hm : M ≤ m) (hn : m ≤ n0) (h : indepB n M Pr tc0 = true) (ht : tc0.map (fun e => (e.1, e.2.map fun j => if j < M then j else n0 + (j - M))) = tc) : indepB n n0 Pr tc = true := by
  subst ht
  have inj : ∀ a b : Nat, (if a < M then a else n0 + (a - M)) = (if b < M then b else n0 + (b - M)) → a = b := fun a b e => by
    split at e <;> split at e <;> omega
  have hg : ∀ i : Nat, (tc0.map (fun e => (e.1, e.2.map fun j => if j < M then j else n0 + (j - M)))).getD i (false, []) = ((tc0.getD i (false, [])).1, (tc0.getD i (false, [])).2.map fun j => if j < M then j else n0 + (j - M)) := fun i => by
    simp only [List.getD_eq_getElem?_getD, List.getElem?_map]
    cases tc0[i]? <;> simp
  unfold indepB at h ⊢
  rw [List.all_eq_true] at h ⊢
  intro i hi
  have h1 := h i hi
  rw [List.all_eq_true] at h1 ⊢
  intro k hk
  have h2 := h1 k hk
  rw [hg, hg]
  simp only [Bool.or_eq_true, Bool.and_eq_true, Bool.not_eq_true', beq_iff_eq, List.all_eq_true] at h2 ⊢
  refine h2.imp (fun h => h) fun ⟨h3, h4⟩ => ⟨h3.imp (fun h => h) fun h id hid => ?_, ?_⟩
  · obtain ⟨j, hj, rfl⟩ := List.mem_map.1 hid
    have h5 := h j hj
    rw [Bool.eq_false_iff] at h5 ⊢
    intro h6
    apply h5
    rw [List.contains_iff_mem] at h6 ⊢
    obtain ⟨j', hj', e⟩ := List.mem_map.1 h6
    exact inj _ _ e ▸ hj'
  · rw [Bool.eq_false_iff] at h4 ⊢
    intro h6
    apply h4
    rw [List.contains_iff_mem] at h6 ⊢
    obtain ⟨j', hj', e⟩ := List.mem_map.1 h6
    have : j' = M + i := by split at e <;> omega
    exact this ▸ hj'

end Go.AM
end
