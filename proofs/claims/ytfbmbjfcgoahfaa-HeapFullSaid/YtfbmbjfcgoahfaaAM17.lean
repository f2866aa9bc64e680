/-
  AM, part 17: a row of operations whose order is drawn. It is gone through in the order of the text; two operations that are not ordered must not look at what the other one writes.
-/
import Derived.Test.YtfbmbjfcgoahfaaAM16
namespace Go.AM
open Go

/-- One operation is ahead of another one. -/
inductive Before (all : Array Oper) : Nat → Nat → Prop
  | edge (i : Nat) (o : Oper) (e : Edge) (ho : all[i]? = some o) (he : e ∈ o.after) (hb : Region.binds .any e = true) : Before all e.on i
  | trans (i j k : Nat) (h : Before all i j) (h' : Before all j k) : Before all i k

def addP (acc : List Nat) : List Edge → Nat
  | [] => 0
  | e :: es => if Region.binds .any e then addP acc es ||| (1 <<< e.on ||| acc.getD e.on 0) else addP acc es

theorem addP_ok {acc : List Nat} {k : Nat} : ∀ {es : List Edge}, (addP acc es).testBit k = true → ∃ e, e ∈ es ∧ Region.binds .any e = true ∧ (k = e.on ∨ (acc.getD e.on 0).testBit k = true)
  | [], h => by simp [addP] at h
  | e :: es, h => by
    unfold addP at h
    split at h
    · rename_i hb
      rw [Nat.testBit_or, Nat.testBit_or, Bool.or_eq_true, Bool.or_eq_true] at h
      rcases h with h | h | h
      · obtain ⟨e', h1, h2⟩ := addP_ok h
        exact ⟨e', List.mem_cons_of_mem _ h1, h2⟩
      · rw [Nat.one_shiftLeft, Nat.testBit_two_pow] at h
        exact ⟨e, List.mem_cons_self, hb, .inl (of_decide_eq_true h).symm⟩
      · exact ⟨e, List.mem_cons_self, hb, .inr h⟩
    · obtain ⟨e', h1, h2⟩ := addP_ok h
      exact ⟨e', List.mem_cons_of_mem _ h1, h2⟩

def predsGo : List Oper → List Nat → List Nat
  | [], acc => acc
  | o :: rest, acc => predsGo rest (acc ++ [addP acc o.after.toList])

/-- Of each operation those that are ahead of it, as the bits of a number. -/
def preds (all : Array Oper) : List Nat := predsGo all.toList []

theorem predsGo_ok (all : Array Oper) : ∀ (rest : List Oper) (acc : List Nat), all.toList.drop acc.length = rest →
    (∀ (i : Nat) l, acc[i]? = some l → ∀ k, l.testBit k = true → Before all k i) → ∀ (i : Nat) l, (predsGo rest acc)[i]? = some l → ∀ k, l.testBit k = true → Before all k i
  | [], acc, _, h => h
  | o :: rest, acc, hd, h => by
    refine predsGo_ok all rest _ ?_ ?_
    · rw [List.length_append, List.length_singleton, ← List.tail_drop, hd]; rfl
    · intro i l hi k hk
      by_cases hlt : i < acc.length
      · rw [List.getElem?_append_left hlt] at hi
        exact h i l hi k hk
      · rw [List.getElem?_append_right (by omega)] at hi
        have hi0 : i = acc.length := by
          have := (List.getElem?_eq_some_iff.1 hi).1
          simp at this
          omega
        subst hi0
        simp at hi
        subst hi
        have ho : all[acc.length]? = some o := by
          have h1 : (all.toList.drop acc.length)[0]? = some o := by rw [hd]; rfl
          rw [List.getElem?_drop] at h1
          simpa using h1
        obtain ⟨e, he, hb, hk⟩ := addP_ok hk
        have he' : e ∈ o.after := by simpa using he
        rcases hk with rfl | hk
        · exact .edge _ o e ho he' hb
        · rw [List.getD_eq_getElem?_getD] at hk
          cases hg : acc[e.on]? with
          | none => rw [hg] at hk; simp at hk
          | some l =>
            rw [hg] at hk
            exact .trans _ _ _ (h e.on l hg k hk) (.edge _ o e ho he' hb)

def pre (all : Array Oper) (i : Nat) : Nat := (preds all).getD i 0

theorem pre_ok {all : Array Oper} {k i : Nat} (h : (pre all i).testBit k = true) : Before all k i := by
  unfold pre at h
  rw [List.getD_eq_getElem?_getD] at h
  cases hg : (preds all)[i]? with
  | none => rw [hg] at h; simp at h
  | some l =>
    rw [hg] at h
    exact predsGo_ok all all.toList [] rfl (by simp) i l hg k h

/-- What the text alone has to show. -/
def chk (all : Array Oper) (P : List Nat) : Bool :=
  (List.range all.size).all fun i =>
    match all[i]? with
    | none => true
    | some o =>
      (o.after.toList.all fun e => !Region.binds .any e || decide (e.on < i)) &&
      (List.range all.size).all fun k =>
        match (all[k]?).bind (·.dst) with
        | none => true
        | some d => k == i || ((o.dst != some d) && (!(o.looksAt all).contains d || (P.getD i 0).testBit k || (P.getD k 0).testBit i))

/-- What is looked at, and may be written, by two that are not ordered, is not the same. -/
def indepB (n n0 : Nat) (P : List Nat) (tc : List (Bool × List Nat)) : Bool :=
  (List.range n).all fun i => (List.range n).all fun k =>
    i == k || (P.getD i 0).testBit k || (P.getD k 0).testBit i ||
    (((tc.getD i (false, [])).1 == false || ((tc.getD i (false, [])).2.all fun id => !(tc.getD k (false, [])).2.contains id)) && !(tc.getD k (false, [])).2.contains (n0 + i))

def isWriter (o : Oper) : Bool :=
  match o.op with
  | .store .. => true
  | .mapUpdate .. => true
  | .insert .. => true
  | .mapEntry .. => true
  | .entryStore .. => true
  | .call c => match c.callee with | .builtin .append => true | .builtin .delete => true | _ => false
  | _ => false

/-- An operation that writes no object that was there. -/
theorem astep_keeps {P : Program} {tm : List AVal} {h h' : Heap} {f : Nat} {o : Oper} {y : AVal} (hw : isWriter o = false) (hs : astep P tm h f o = some (y, h')) (id : Nat) (hid : id ≠ f) : lk h' id = lk h id := by
  have same : ∀ {g : Option AVal}, g.map (fun y => (y, h)) = some (y, h') → lk h' id = lk h id := fun hh => by
    obtain ⟨z, h3, h4⟩ := Option.map_eq_some_iff.1 hh
    injection h4 with e1 e2
    rw [← e2]
  have pure' : ∀ {z : AVal}, some (z, h) = some (y, h') → lk h' id = lk h id := fun hh => by
    injection hh with hh
    injection hh with e1 e2
    rw [← e2]
  have cons : ∀ {z : AVal} {ob : Ob}, some (z, (f, ob) :: h) = some (y, h') → lk h' id = lk h id := fun hh => by
    injection hh with hh
    injection hh with e1 e2
    rw [← e2, lk_cons, if_neg hid]
  have box : ∀ {x : AVal}, abox h f x = some (y, h') → lk h' id = lk h id := fun hh => by
    unfold abox at hh
    split at hh
    · exact cons hh
    · cases hh
  obtain ⟨dst, op, type, pos, after, guard⟩ := o
  cases op <;> simp only [astep] at hs <;> try (cases hs; done)
  case move x => exact pure' hs
  case assign x => exact pure' hs
  case pick c x z =>
    split at hs
    · exact pure' hs
    · cases hs
  case alloc elem =>
    split at hs
    · exact box hs
    · cases hs
  case box elem x => exact box hs
  case build t parts => exact same hs
  case buildSlice t len parts =>
    unfold abuildSlice at hs
    repeat' (split at hs)
    all_goals first | (cases hs; done) | exact cons hs
  case load t x => exact same hs
  case store t x z => simp [isWriter] at hw
  case nilCheck x =>
    split at hs
    · exact pure' hs
    · cases hs
  case binOp op t x z yt => exact same hs
  case unOp op t x => exact same hs
  case convert src dst' x =>
    split at hs
    · exact same hs
    · cases hs
  case makeInterface t x => exact same hs
  case makeFunc fn first captured => exact pure' hs
  case makeSlice t l c =>
    unfold amakeSlice at hs
    repeat' (split at hs)
    all_goals first | (cases hs; done) | exact cons hs
  case slice t x lo hi mx => exact same hs
  case fieldAddr t x fl => exact same hs
  case field t x fl => exact same hs
  case indexAddr t x ix => exact same hs
  case index t x ix => exact same hs
  case extract x ix => exact same hs
  case makeMap t r =>
    split at hs
    · exact cons hs
    · cases hs
  case lookup t x k ok => exact same hs
  case mapUpdate t m k x => simp [isWriter] at hw
  case insert t m k x => simp [isWriter] at hw
  case mapEntry t m k => simp [isWriter] at hw
  case entryStore t m k x => simp [isWriter] at hw
  case call c =>
    split at hs
    case h_2 => cases hs
    rename_i b hb
    unfold abuiltin at hs
    split at hs
    case h_6 => cases hs
    · exact same hs
    · simp [isWriter, hb] at hw
    · exact same hs
    · exact same hs
    · simp [isWriter, hb] at hw

/-- It makes no object longer. -/
def notApp (o : Oper) : Bool :=
  match o.op with
  | .call c => match c.callee with | .builtin .append => false | _ => true
  | _ => true

/-- It looks at no cell. -/
def adrOp (o : Oper) : Bool :=
  match o.op with
  | .move _ => true
  | .assign _ => true
  | .fieldAddr .. => true
  | .indexAddr .. => true
  | .extract .. => true
  | _ => false

def shpO : Option Ob → Option (Nat × Nat)
  | some (.arr e rows) => some (e, rows.length)
  | _ => none

theorem shp_up {h : Heap} {j : Nat} {M M' : MapA} (hl : lk h j = some (.mp M)) (id : Nat) : shpO (lk (hset h j (.mp M')) id) = shpO (lk h id) := by
  rw [lk_hset _ hl]
  split
  · rename_i e
    subst e
    rw [hl]
    rfl
  · rfl

theorem shp_mp {P : Program} {h h' : Heap} {t : TypeId} {x k v : AVal} (hs : amapUpdate P h t x k v = some h') (id : Nat) : shpO (lk h' id) = shpO (lk h id) := by
  unfold amapUpdate at hs
  repeat' (split at hs)
  all_goals first | (cases hs; done) | skip
  all_goals
    have hl := ‹lk h _ = some (Ob.mp _)›
    injection hs with hs
    subst hs
    exact shp_up hl id

theorem shp_ent {P : Program} {h h' : Heap} {t : TypeId} {x k y : AVal} (hs : amapEntry P h t x k = some (y, h')) (id : Nat) : shpO (lk h' id) = shpO (lk h id) := by
  unfold amapEntry at hs
  repeat' (split at hs)
  all_goals first | (cases hs; done) | skip
  all_goals
    have hl := ‹lk h _ = some (Ob.mp _)›
    injection hs with hs
    injection hs with _ hs
    subst hs
    exact shp_up hl id

theorem shp_sto {h h' : Heap} {x k v : AVal} (hs : aentryStore h x k v = some h') (id : Nat) : shpO (lk h' id) = shpO (lk h id) := by
  unfold aentryStore at hs
  repeat' (split at hs)
  all_goals first | (cases hs; done) | skip
  rename_i hl
  obtain ⟨es, _, hs⟩ := Option.map_eq_some_iff.1 hs
  subst hs
  rw [lk_hset _ hl]
  split
  · rename_i e
    subst e
    rw [hl]
    rfl
  · rfl

theorem shp_del {P : Program} {h h' : Heap} {t : TypeId} {x k y : AVal} (hs : adelete P h t x k = some (y, h')) (id : Nat) : shpO (lk h' id) = shpO (lk h id) := by
  unfold adelete at hs
  repeat' (split at hs)
  all_goals first | (cases hs; done) | skip
  rename_i hl _
  injection hs with hs
  injection hs with _ hs
  subst hs
  rw [lk_hset _ hl]
  split
  · rename_i e
    subst e
    rw [hl]
    rfl
  · rfl

theorem astep_shape {P : Program} {tm : List AVal} {h h' : Heap} {f : Nat} {o : Oper} {y : AVal} (hna : notApp o = true) (hs : astep P tm h f o = some (y, h')) (id : Nat) (hid : id ≠ f) : shpO (lk h' id) = shpO (lk h id) := by
  by_cases hw : isWriter o = true
  · obtain ⟨dst, op, type, pos, after, guard⟩ := o
    cases op <;> simp only [isWriter] at hw <;> try (cases hw; done)
    case store t a x =>
      simp only [astep] at hs
      obtain ⟨h2, h3, h4⟩ := Option.map_eq_some_iff.1 hs
      injection h4 with e1 e2
      subst e2
      unfold astore at h3
      split at h3
      case h_2 => cases h3
      split at h3
      case h_2 => cases h3
      rename_i hl
      split at h3
      case isFalse => cases h3
      split at h3
      case h_2 => cases h3
      split at h3
      case isFalse => cases h3
      injection h3 with h3
      subst h3
      rw [lk_hset _ hl]
      split
      · rename_i e
        subst e
        rw [hl]
        simp [shpO]
      · rfl
    case mapUpdate t m k x =>
      simp only [astep] at hs
      obtain ⟨h2, h3, h4⟩ := Option.map_eq_some_iff.1 hs
      injection h4 with e1 e2
      subst e2
      exact shp_mp h3 id
    case insert t m k x =>
      simp only [astep] at hs
      obtain ⟨h2, h3, h4⟩ := Option.map_eq_some_iff.1 hs
      injection h4 with e1 e2
      subst e2
      exact shp_mp h3 id
    case mapEntry t m k => exact shp_ent hs id
    case entryStore t m k x =>
      simp only [astep] at hs
      obtain ⟨h2, h3, h4⟩ := Option.map_eq_some_iff.1 hs
      injection h4 with e1 e2
      subst e2
      exact shp_sto h3 id
    case call c =>
      simp only [notApp] at hna
      split at hw
      · rename_i hb
        rw [hb] at hna
        simp at hna
      · rename_i hb
        simp only [astep, hb] at hs
        unfold abuiltin at hs
        split at hs
        all_goals try contradiction
        exact shp_del hs id
      · cases hw
  · rw [astep_keeps (by simpa using hw) hs id hid]

theorem astep_adr {P : Program} {tm : List AVal} {h h' g : Heap} {f n : Nat} {o : Oper} {y : AVal} (ha : adrOp o = true) (ht : ∀ id, id ∈ touched tm o → id < n) (hs : astep P tm h f o = some (y, h')) (hg : ∀ id, id < n → shpO (lk g id) = shpO (lk h id)) :
    h' = h ∧ astep P tm g f o = some (y, g) := by
  have same : ∀ {z z' : Option AVal}, z = z' → z.map (fun y => (y, h)) = some (y, h') → h' = h ∧ z'.map (fun y => (y, g)) = some (y, g) := fun e hh => by
    subst e
    obtain ⟨w, h3, h4⟩ := Option.map_eq_some_iff.1 hh
    injection h4 with e1 e2
    exact ⟨e2.symm, by rw [h3, ← e1]; rfl⟩
  obtain ⟨dst, op, type, pos, after, guard⟩ := o
  cases op <;> simp only [adrOp] at ha <;> try (cases ha; done)
  case move x =>
    simp only [astep] at hs ⊢
    injection hs with hs
    injection hs with e1 e2
    exact ⟨e2.symm, by rw [e1]⟩
  case assign x =>
    simp only [astep] at hs ⊢
    injection hs with hs
    injection hs with e1 e2
    exact ⟨e2.symm, by rw [e1]⟩
  case fieldAddr s x k => exact same rfl hs
  case extract x i => exact same rfl hs
  case indexAddr t x ix =>
    refine same ?_ hs
    have hx : ∀ id, id ∈ touchOf (ev tm x) → id < n := fun id hid => ht id (mem_touched (by simp [Op.operands]) id hid)
    unfold aindexAddr
    cases hxx : ev tm x with
    | ref id sz base len ex c =>
      rw [hxx] at hx
      have := hg id (hx id (by simp [touchOf]))
      cases h1 : lk h id with
      | none =>
        rw [h1] at this
        cases h2 : lk g id with
        | none => simp only [h1, h2]
        | some o2 =>
          rw [h2] at this
          cases o2 with
          | arr e r => simp [shpO] at this
          | mp es => simp only [h1, h2]
      | some o1 =>
        rw [h1] at this
        cases o1 with
        | arr e1 r1 =>
          cases h2 : lk g id with
          | none => rw [h2] at this; simp [shpO] at this
          | some o2 =>
            rw [h2] at this
            cases o2 with
            | arr e2 r2 =>
              simp only [shpO, Option.some.injEq, Prod.mk.injEq] at this
              simp only [h1, h2, this.1, this.2]
            | mp es => simp [shpO] at this
        | mp es =>
          cases h2 : lk g id with
          | none => simp only [h1, h2]
          | some o2 =>
            rw [h2] at this
            cases o2 with
            | arr e r => simp [shpO] at this
            | mp es' => simp only [h1, h2]
    | _ => rfl

/-- An operation whose answer is a value that nobody will write, whatever else goes on. -/
def LitOp (P : Program) (tm : List AVal) (o : Oper) (y : AVal) : Prop :=
  ∀ (n0 : Nat) (ext : Nat → Prop) (β : Nat → Option Nat) (p : Nat → Prop) (tmps : List AVal) (h : Heap) (a : Act) (w : World), SInP n0 ext β p tmps h a w → (∀ x, x ∈ o.op.operands → ev tmps x = ev tm x) →
    ∀ (K : Act → World → Prop) (Q : Exit → Act → World → Prop), (∀ v w', HIn ext β p h w' → VRel (cx ext β h w') y v → Fz y → Evo (owns β h) w (owns β h) w' → (∀ q, Step q (cx ext β h w) (cx ext β h w')) → K (a.put o.dst v) w') → o.wp P a w K Q

/-- Objects are set anew. -/
def upds (h : Heap) : Heap → Heap
  | [] => h
  | (i, o) :: l => upds (hset h i o) l

/-- An operation that sets some objects anew, whatever else there is. -/
def EffOp (P : Program) (tm : List AVal) (o : Oper) (y : AVal) (L L' : Heap) : Prop :=
  ∀ (n0 : Nat) (ext : Nat → Prop) (β : Nat → Option Nat) (p : Nat → Prop) (tmps : List AVal) (h : Heap) (a : Act) (w : World), SInP n0 ext β p tmps h a w → (∀ x, x ∈ o.op.operands → ev tmps x = ev tm x) → (∀ e, e ∈ L → lk h e.1 = some e.2) →
    ∀ (K : Act → World → Prop) (Q : Exit → Act → World → Prop), (∀ v w' β', HIn ext β' p (upds h L') w' → VRel (cx ext β' (upds h L') w') y v → Nm p y → Evo (owns β h) w (owns β' (upds h L')) w' → Step p (cx ext β h w) (cx ext β' (upds h L') w') → K (a.put o.dst v) w') → o.wp P a w K Q

/-- The row, in the order of the text. -/
inductive DR (fl : Bool) (P : Program) (all : Array Oper) (Pr : List Nat) (n0 : Nat) (K : St → Prop) : Nat → List AVal → Heap → List (Bool × List Nat) → Prop
  | nil (i : Nat) (tm : List AVal) (hp : Heap) (tc : List (Bool × List Nat)) (hi : i = all.size) (hind : indepB i n0 Pr tc = true) (h : K ⟨tm, hp, n0 + i⟩) : DR fl P all Pr n0 K i tm hp tc
  | skip (i : Nat) (tm : List AVal) (hp : Heap) (tc : List (Bool × List Nat)) (o : Oper) (ho : all[i]? = some o) (hg : guardA all tm o = some false)
      (h : DR fl P all Pr n0 K (i + 1) (putT tm o.dst (.tuple [])) hp (tc ++ [(false, [])])) : DR fl P all Pr n0 K i tm hp tc
  | step (i : Nat) (tm : List AVal) (hp : Heap) (tc : List (Bool × List Nat)) (o : Oper) (y : AVal) (hp' : Heap) (ho : all[i]? = some o) (hg : guardA all tm o = some true) (hs : astep P tm hp (n0 + i) o = some (y, hp'))
      (h : DR fl P all Pr n0 K (i + 1) (putT tm o.dst y) hp' (tc ++ [(isWriter o, touched tm o)])) : DR fl P all Pr n0 K i tm hp tc
  | adr (i : Nat) (tm : List AVal) (hp : Heap) (tc : List (Bool × List Nat)) (o : Oper) (y : AVal) (hp' : Heap) (ho : all[i]? = some o) (hg : guardA all tm o = some true) (hfl : fl = true) (ha : adrOp o = true) (hna : all.all notApp = true) (ht : ∀ id, id ∈ touched tm o → id < n0)
      (hs : astep P tm hp (n0 + i) o = some (y, hp')) (h : DR fl P all Pr n0 K (i + 1) (putT tm o.dst y) hp (tc ++ [(false, [])])) : DR fl P all Pr n0 K i tm hp tc
  | call (i : Nat) (tm : List AVal) (hp : Heap) (tc : List (Bool × List Nat)) (o : Oper) (c : Call) (g : FuncId) (args args' : List AVal) (r : AVal) (L : List Nat) (ho : all[i]? = some o) (hg : guardA all tm o = some true) (hop : o.op = .call c)
      (ht : target tm c = some (g, args)) (hc : PCall P g args' (· = r)) (hlen : args'.length = args.length) (hf : ∀ (k : Nat) x y, args[k]? = some x → args'[k]? = some y → Frz hp (· ∈ L) x y) (hflat : Flat r ∨ L = [])
      (h : DR fl P all Pr n0 K (i + 1) (putT tm o.dst r) hp (tc ++ [(false, L)])) : DR fl P all Pr n0 K i tm hp tc
  | fresh (i : Nat) (tm : List AVal) (hp : Heap) (tc : List (Bool × List Nat)) (o : Oper) (c : Call) (g : FuncId) (args args' : List AVal) (x : Nat → AVal) (ob : Ob) (ho : all[i]? = some o) (hg : guardA all tm o = some true) (hop : o.op = .call c)
      (ht : target tm c = some (g, args)) (hc : PNew P g args' x ob) (hlen : args'.length = args.length) (hf : ∀ (k : Nat) x y, args[k]? = some x → args'[k]? = some y → Frz hp (· ∈ ([] : List Nat)) x y)
      (h : DR fl P all Pr n0 K (i + 1) (putT tm o.dst (x (n0 + i))) ((n0 + i, ob) :: hp) (tc ++ [(false, [])])) : DR fl P all Pr n0 K i tm hp tc
  | lit (i : Nat) (tm : List AVal) (hp : Heap) (tc : List (Bool × List Nat)) (o : Oper) (y : AVal) (ho : all[i]? = some o) (hg : guardA all tm o = some true) (hl : LitOp P tm o y)
      (h : DR fl P all Pr n0 K (i + 1) (putT tm o.dst y) hp (tc ++ [(false, [])])) : DR fl P all Pr n0 K i tm hp tc
  | eff (i : Nat) (tm : List AVal) (hp : Heap) (tc : List (Bool × List Nat)) (o : Oper) (y : AVal) (L L' : Heap) (ho : all[i]? = some o) (hg : guardA all tm o = some true) (hfl : fl = false) (hk : ∀ e, e ∈ L' → e.1 ∈ L.map (·.1)) (hL : ∀ e, e ∈ L → lk hp e.1 = some e.2) (he : EffOp P tm o y L L')
      (h : DR fl P all Pr n0 K (i + 1) (putT tm o.dst y) (upds hp L') (tc ++ [(true, L.map (·.1))])) : DR fl P all Pr n0 K i tm hp tc

/-- One operation's part of a plan. -/
def PS (fl : Bool) (P : Program) (all : Array Oper) (n0 : Nat) (tm : Nat → List AVal) (hp : Nat → Heap) (tc : Nat → Bool × List Nat) (i : Nat) : Prop :=
  ∃ o, all[i]? = some o ∧
    ((guardA all (tm i) o = some false ∧ tm (i + 1) = putT (tm i) o.dst (.tuple []) ∧ hp (i + 1) = hp i ∧ tc i = (false, [])) ∨
     (∃ y, guardA all (tm i) o = some true ∧ astep P (tm i) (hp i) (n0 + i) o = some (y, hp (i + 1)) ∧ tm (i + 1) = putT (tm i) o.dst y ∧ tc i = (isWriter o, touched (tm i) o)) ∨
     (∃ y, guardA all (tm i) o = some true ∧ fl = true ∧ adrOp o = true ∧ all.all notApp = true ∧ (∀ id, id ∈ touched (tm i) o → id < n0) ∧ astep P (tm i) (hp i) (n0 + i) o = some (y, hp (i + 1)) ∧ tm (i + 1) = putT (tm i) o.dst y ∧ tc i = (false, [])) ∨
     (∃ c g args args' r L, guardA all (tm i) o = some true ∧ o.op = .call c ∧ target (tm i) c = some (g, args) ∧ PCall P g args' (· = r) ∧ args'.length = args.length ∧
       (∀ (k : Nat) x y, args[k]? = some x → args'[k]? = some y → Frz (hp i) (· ∈ L) x y) ∧ (Flat r ∨ L = []) ∧ tm (i + 1) = putT (tm i) o.dst r ∧ hp (i + 1) = hp i ∧ tc i = (false, L)) ∨
     (∃ c g args args' x ob, guardA all (tm i) o = some true ∧ o.op = .call c ∧ target (tm i) c = some (g, args) ∧ PNew P g args' x ob ∧ args'.length = args.length ∧
       (∀ (k : Nat) x y, args[k]? = some x → args'[k]? = some y → Frz (hp i) (· ∈ ([] : List Nat)) x y) ∧ tm (i + 1) = putT (tm i) o.dst (x (n0 + i)) ∧ hp (i + 1) = (n0 + i, ob) :: hp i ∧ tc i = (false, [])) ∨
     (∃ y, guardA all (tm i) o = some true ∧ LitOp P (tm i) o y ∧ tm (i + 1) = putT (tm i) o.dst y ∧ hp (i + 1) = hp i ∧ tc i = (false, [])) ∨
     (∃ y L L', guardA all (tm i) o = some true ∧ fl = false ∧ (∀ e, e ∈ L' → e.1 ∈ L.map (·.1)) ∧ (∀ e, e ∈ L → lk (hp i) e.1 = some e.2) ∧ EffOp P (tm i) o y L L' ∧ tm (i + 1) = putT (tm i) o.dst y ∧ hp (i + 1) = upds (hp i) L' ∧ tc i = (true, L.map (·.1))))

theorem PS.congr {fl : Bool} {P : Program} {all : Array Oper} {n0 : Nat} {tm tm' : Nat → List AVal} {hp hp' : Nat → Heap} {tc tc' : Nat → Bool × List Nat} {i : Nat} (h : PS fl P all n0 tm hp tc i) (e1 : tm i = tm' i) (e2 : tm (i + 1) = tm' (i + 1))
    (e3 : hp i = hp' i) (e4 : hp (i + 1) = hp' (i + 1)) (e5 : tc i = tc' i) : PS fl P all n0 tm' hp' tc' i := by
  unfold PS at *
  rw [← e1, ← e2, ← e3, ← e4, ← e5]
  exact h

theorem DR.plan {fl : Bool} {P : Program} {all : Array Oper} {Pr : List Nat} {n0 : Nat} {K : St → Prop} {i : Nat} {t0 : List AVal} {h0 : Heap} {tc0 : List (Bool × List Nat)} (d : DR fl P all Pr n0 K i t0 h0 tc0) : tc0.length = i → i ≤ all.size →
    ∃ (tm : Nat → List AVal) (hp : Nat → Heap) (tcs : List (Bool × List Nat)), tm i = t0 ∧ hp i = h0 ∧ (∀ j, j < i → tcs[j]? = tc0[j]?) ∧ tcs.length = all.size ∧ (∀ j, i ≤ j → j < all.size → PS fl P all n0 tm hp (fun j => tcs.getD j (false, [])) j) ∧
      indepB all.size n0 Pr tcs = true ∧ K ⟨tm all.size, hp all.size, n0 + all.size⟩ := by
  have key : ∀ (i : Nat) (t0 : List AVal) (h0 : Heap) (tc0 : List (Bool × List Nat)) (e : Bool × List Nat), tc0.length = i → i < all.size → (∃ (tm : Nat → List AVal) (hp : Nat → Heap) (tcs : List (Bool × List Nat)),
      (∀ j, j < i + 1 → tcs[j]? = (tc0 ++ [e])[j]?) ∧ tcs.length = all.size ∧ (∀ j, i + 1 ≤ j → j < all.size → PS fl P all n0 tm hp (fun j => tcs.getD j (false, [])) j) ∧
      indepB all.size n0 Pr tcs = true ∧ K ⟨tm all.size, hp all.size, n0 + all.size⟩ ∧ (∀ (tm' : Nat → List AVal) (hp' : Nat → Heap), tm' i = t0 → hp' i = h0 → (∀ j, i < j → tm' j = tm j) → (∀ j, i < j → hp' j = hp j) → PS fl P all n0 tm' hp' (fun _ => e) i)) →
      ∃ (tm : Nat → List AVal) (hp : Nat → Heap) (tcs : List (Bool × List Nat)), tm i = t0 ∧ hp i = h0 ∧ (∀ j, j < i → tcs[j]? = tc0[j]?) ∧ tcs.length = all.size ∧ (∀ j, i ≤ j → j < all.size → PS fl P all n0 tm hp (fun j => tcs.getD j (false, [])) j) ∧
        indepB all.size n0 Pr tcs = true ∧ K ⟨tm all.size, hp all.size, n0 + all.size⟩ := by
    rintro i t0 h0 tc0 e hl hi ⟨tm, hp, tcs, h3, h4, h5, h6, h7, h8⟩
    refine ⟨fun j => if j = i then t0 else tm j, fun j => if j = i then h0 else hp j, tcs, by simp, by simp, fun j hj => ?_, h4, fun j hj hjs => ?_, h6, ?_⟩
    · rw [h3 j (by omega), List.getElem?_append_left (by omega)]
    · by_cases e1 : j = i
      · subst e1
        have := h8 (fun k => if k = j then t0 else tm k) (fun k => if k = j then h0 else hp k) (by simp) (by simp) (fun k hk => by simp [Nat.ne_of_gt hk]) (fun k hk => by simp [Nat.ne_of_gt hk])
        have e2 : tcs.getD j (false, []) = e := by
          rw [List.getD_eq_getElem?_getD, h3 j (by omega), List.getElem?_append_right (by omega), hl]; simp
        exact this.congr rfl rfl rfl rfl e2.symm
      · have := h5 j (by omega) hjs
        have e2 : ¬ j + 1 = i := by omega
        exact this.congr (by simp [e1]) (by simp [e2]) (by simp [e1]) (by simp [e2]) rfl
    · have e3 : ¬ all.size = i := by omega
      simp only [if_neg e3]
      exact h7
  induction d with
  | nil i tm hp tc hi hind h =>
    intro hl _
    subst hi
    exact ⟨fun _ => tm, fun _ => hp, tc, rfl, rfl, fun _ _ => rfl, hl, fun j h1 h2 => by omega, hind, h⟩
  | skip i tm hp tc o ho hg h ih =>
    intro hl hi
    have hlt : i < all.size := (Array.getElem?_eq_some_iff.1 ho).1
    obtain ⟨tm', hp', tcs, h1, h2, h3, h4, h5, h6, h7⟩ := ih (by simp [hl]) hlt
    exact key i tm hp tc _ hl hlt ⟨tm', hp', tcs, h3, h4, h5, h6, h7, fun tm2 hp2 q1 q2 q3 q4 => ⟨o, ho, .inl ⟨by rw [q1]; exact hg, by rw [q3 _ (by omega), h1, q1], by rw [q4 _ (by omega), h2, q2], rfl⟩⟩⟩
  | step i tm hp tc o y hp' ho hg hs h ih =>
    intro hl hi
    have hlt : i < all.size := (Array.getElem?_eq_some_iff.1 ho).1
    obtain ⟨tm', hp'', tcs, h1, h2, h3, h4, h5, h6, h7⟩ := ih (by simp [hl]) hlt
    exact key i tm hp tc _ hl hlt ⟨tm', hp'', tcs, h3, h4, h5, h6, h7, fun tm2 hp2 q1 q2 q3 q4 => ⟨o, ho, .inr (.inl ⟨y, by rw [q1]; exact hg, by rw [q1, q2, q4 _ (by omega), h2]; exact hs, by rw [q3 _ (by omega), h1, q1], by rw [q1]⟩)⟩⟩
  | adr i tm hp tc o y hp' ho hg hfl ha hna ht hs h ih =>
    intro hl hi
    have hlt : i < all.size := (Array.getElem?_eq_some_iff.1 ho).1
    obtain ⟨tm', hp'', tcs, h1, h2, h3, h4, h5, h6, h7⟩ := ih (by simp [hl]) hlt
    have he : hp' = hp := (astep_adr (g := hp) ha ht hs fun _ _ => rfl).1
    subst he
    exact key i tm _ tc _ hl hlt ⟨tm', hp'', tcs, h3, h4, h5, h6, h7, fun tm2 hp2 q1 q2 q3 q4 => ⟨o, ho, .inr (.inr (.inl ⟨y, by rw [q1]; exact hg, hfl, ha, hna, by rw [q1]; exact ht, by rw [q1, q2, q4 _ (by omega), h2]; exact hs, by rw [q3 _ (by omega), h1, q1], rfl⟩))⟩⟩
  | call i tm hp tc o c g args args' r L ho hg hop ht hc hlen hf hflat h ih =>
    intro hl hi
    have hlt : i < all.size := (Array.getElem?_eq_some_iff.1 ho).1
    obtain ⟨tm', hp'', tcs, h1, h2, h3, h4, h5, h6, h7⟩ := ih (by simp [hl]) hlt
    exact key i tm hp tc _ hl hlt ⟨tm', hp'', tcs, h3, h4, h5, h6, h7, fun tm2 hp2 q1 q2 q3 q4 => ⟨o, ho, .inr (.inr (.inr (.inl ⟨c, g, args, args', r, L, by rw [q1]; exact hg, hop, by rw [q1]; exact ht, hc, hlen, by rw [q2]; exact hf, hflat, by rw [q3 _ (by omega), h1, q1], by rw [q4 _ (by omega), h2, q2], rfl⟩)))⟩⟩
  | fresh i tm hp tc o c g args args' x ob ho hg hop ht hc hlen hf h ih =>
    intro hl hi
    have hlt : i < all.size := (Array.getElem?_eq_some_iff.1 ho).1
    obtain ⟨tm', hp'', tcs, h1, h2, h3, h4, h5, h6, h7⟩ := ih (by simp [hl]) hlt
    exact key i tm hp tc _ hl hlt ⟨tm', hp'', tcs, h3, h4, h5, h6, h7, fun tm2 hp2 q1 q2 q3 q4 => ⟨o, ho, .inr (.inr (.inr (.inr (.inl ⟨c, g, args, args', x, ob, by rw [q1]; exact hg, hop, by rw [q1]; exact ht, hc, hlen, by rw [q2]; exact hf, by rw [q3 _ (by omega), h1, q1], by rw [q4 _ (by omega), h2, q2], rfl⟩))))⟩⟩
  | lit i tm hp tc o y ho hg hl h ih =>
    intro hlen hi
    have hlt : i < all.size := (Array.getElem?_eq_some_iff.1 ho).1
    obtain ⟨tm', hp'', tcs, h1, h2, h3, h4, h5, h6, h7⟩ := ih (by simp [hlen]) hlt
    exact key i tm hp tc _ hlen hlt ⟨tm', hp'', tcs, h3, h4, h5, h6, h7, fun tm2 hp2 q1 q2 q3 q4 => ⟨o, ho, .inr (.inr (.inr (.inr (.inr (.inl ⟨y, by rw [q1]; exact hg, by rw [q1]; exact hl, by rw [q3 _ (by omega), h1, q1], by rw [q4 _ (by omega), h2, q2], rfl⟩)))))⟩⟩
  | eff i tm hp tc o y L L' ho hg hfl hk hL he h ih =>
    intro hlen hi
    have hlt : i < all.size := (Array.getElem?_eq_some_iff.1 ho).1
    obtain ⟨tm', hp'', tcs, h1, h2, h3, h4, h5, h6, h7⟩ := ih (by simp [hlen]) hlt
    exact key i tm hp tc _ hlen hlt ⟨tm', hp'', tcs, h3, h4, h5, h6, h7, fun tm2 hp2 q1 q2 q3 q4 => ⟨o, ho, .inr (.inr (.inr (.inr (.inr (.inr ⟨y, L, L', by rw [q1]; exact hg, hfl, hk, by rw [q2]; exact hL, by rw [q1]; exact he, by rw [q3 _ (by omega), h1, q1], by rw [q4 _ (by omega), h2, q2], rfl⟩)))))⟩⟩

end Go.AM
