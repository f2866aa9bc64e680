/-
  AM, part 10 m: maps whose keys are numbers or texts: made, looked up, written, taken from.
-/
import Derived.Test.YtfbmbjfcgoahfaaAM10
import Derived.MapKept
set_option linter.unusedVariables false
namespace Go.AM
open Go Go.MapKept

/-- Is it a key of this kind? -/
def keyOk : TK → AVal → Bool
  | .int k, .int k' _ => decide (k' = k)
  | .str, .str _ => true
  | _, _ => false

def keq : AVal → AVal → Bool
  | .int _ a, .int _ b => decide (a = b)
  | .str a, .str b => decide (a = b)
  | _, _ => false

def alook (k : AVal) : List (AVal × AVal × Nat) → Option AVal
  | [] => none
  | e :: es => if keq k e.1 = true then some e.2.1 else alook k es

def aput (k v : AVal) (n : Nat) : List (AVal × AVal × Nat) → List (AVal × AVal × Nat)
  | [] => [(k, v, n)]
  | e :: es => if keq k e.1 = true then (k, v, e.2.2) :: es else e :: aput k v n es

/-- When an entry was born. -/
def aborn (k : AVal) : List (AVal × AVal × Nat) → Nat
  | [] => 0
  | e :: es => if keq k e.1 = true then e.2.2 else aborn k es

/-- The entry that was born then. -/
def astamp (b : Int) (v : AVal) : List (AVal × AVal × Nat) → Option (List (AVal × AVal × Nat))
  | [] => none
  | e :: es => if (e.2.2 : Int) == b then some ((e.1, v, e.2.2) :: es) else (astamp b v es).map (e :: ·)

def adel (k : AVal) : List (AVal × AVal × Nat) → List (AVal × AVal × Nat)
  | [] => []
  | e :: es => if keq k e.1 = true then es else e :: adel k es

def keysOk (kd : TK) (es : List (AVal × AVal × Nat)) : Bool := es.all fun e => keyOk kd e.1

def commaA (ok there : Bool) (v : AVal) : AVal := if ok then .tuple [v, .bool there] else v

def alookup (P : Program) (h : Heap) (t : TypeId) (x k : AVal) (ok : Bool) : Option AVal :=
  match tab P t with
  | some ⟨.map kt et, _, _, _⟩ =>
    match tab P kt, tab P et with
    | some ki, some ei =>
      if keyOk ki.kind k = true then
        match x with
        | .nilmap => some (commaA ok false ei.zero)
        | .mapv id =>
          match lk h id with
          | some (.mp a) => if keysOk ki.kind a.es = true then (match alook k a.es with | some v => some (commaA ok true v) | none => some (commaA ok false ei.zero)) else none
          | _ => none
        | _ => none
      else none
    | _, _ => none
  | _ => none

def amapUpdate (P : Program) (h : Heap) (t : TypeId) (x k v : AVal) : Option Heap :=
  match tab P t with
  | some ⟨.map kt et, _, _, _⟩ =>
    match tab P kt with
    | some ki =>
      if keyOk ki.kind k = true then
        match x with
        | .mapv id =>
          match lk h id with
          | some (.mp a) => if keysOk ki.kind a.es = true then some (hset h id (.mp ⟨aput k v a.clock a.es, if (alook k a.es).isSome then a.clock else a.clock + 1⟩)) else none
          | _ => none
        | _ => none
      else none
    | _ => none
  | _ => none

def adelete (P : Program) (h : Heap) (t : TypeId) (x k : AVal) : Option (AVal × Heap) :=
  match tab P t with
  | some ⟨.map kt et, _, _, _⟩ =>
    match tab P kt with
    | some ki =>
      if keyOk ki.kind k = true then
        match x with
        | .mapv id =>
          match lk h id with
          | some (.mp a) => if keysOk ki.kind a.es = true then some (.tuple [], hset h id (.mp ⟨adel k a.es, a.clock⟩)) else none
          | _ => none
        | _ => none
      else none
    | _ => none
  | _ => none

def amapEntry (P : Program) (h : Heap) (t : TypeId) (x k : AVal) : Option (AVal × Heap) :=
  match tab P t with
  | some ⟨.map kt et, _, _, _⟩ =>
    match tab P kt, tab P et with
    | some ki, some ei =>
      if keyOk ki.kind k = true then
        match x with
        | .mapv id =>
          match lk h id with
          | some (.mp a) =>
            if keysOk ki.kind a.es = true then
              match alook k a.es with
              | some v => some (.tuple [v, .int .i64 (aborn k a.es)], hset h id (.mp ⟨aput k v a.clock a.es, a.clock⟩))
              | none => some (.tuple [ei.zero, .int .i64 a.clock], hset h id (.mp ⟨aput k ei.zero a.clock a.es, a.clock + 1⟩))
            else none
          | _ => none
        | _ => none
      else none
    | _, _ => none
  | _ => none

def aentryStore (h : Heap) (x s v : AVal) : Option Heap :=
  match x, s with
  | .mapv id, .int .i64 b =>
    match lk h id with
    | some (.mp a) => (astamp b v a.es).map fun es => hset h id (.mp ⟨es, a.clock⟩)
    | _ => none
  | _, _ => none

section
variable {P : Program} {ext : Nat → Prop} {β : Nat → Option Nat} {p : Nat → Prop} {h : Heap} {w : World} {fresh : Nat}

theorem keyOk_is {t : TypeId} {ti : TI} (ht : tab P t = some ti) {k : AVal} (hk : keyOk ti.kind k = true) : ∃ d, P.underlying t = some d ∧ ∀ (c : Cx) v, VRel c k v → IsKey d v := by
  obtain ⟨kd, n, m, z⟩ := ti
  cases kd <;> cases k <;> simp [keyOk] at hk
  · subst hk
    refine ⟨_, und_int ht, fun c v hv => ?_⟩
    cases hv
    exact rfl
  · refine ⟨_, und_str ht, fun c v hv => ?_⟩
    cases hv
    trivial

theorem keq_is {kd : TK} {k e : AVal} (hk : keyOk kd k = true) (he : keyOk kd e = true) {c : Cx} {u v : Value} (hu : VRel c k u) (hv : VRel c e v) : keq k e = true ↔ v = u := by
  cases kd <;> cases k <;> cases e <;> simp [keyOk] at hk he
  · subst hk
    subst he
    cases hu
    cases hv
    simp only [keq, decide_eq_true_eq, Value.int.injEq, true_and]
    exact ⟨fun h => h.symm, fun h => h.symm⟩
  · cases hu
    cases hv
    simp only [keq, decide_eq_true_eq, Value.string.injEq]
    exact ⟨fun h => h.symm, fun h => h.symm⟩

/-- Entries, and what stands for them. -/
def EntL (c : Cx) (es : List (AVal × AVal × Nat)) (ms : List MapEntry) : Prop := ms.length = es.length ∧ ∀ (i : Nat) k v n m, es[i]? = some (k, v, n) → ms[i]? = some m → VRel c k m.key ∧ VRel c v m.val ∧ m.born = n

theorem EntL.tail {c : Cx} {e : AVal × AVal × Nat} {es : List (AVal × AVal × Nat)} {m : MapEntry} {ms : List MapEntry} (h : EntL c (e :: es) (m :: ms)) : VRel c e.1 m.key ∧ VRel c e.2.1 m.val ∧ m.born = e.2.2 ∧ EntL c es ms :=
  ⟨(h.2 0 e.1 e.2.1 e.2.2 m rfl rfl).1, (h.2 0 e.1 e.2.1 e.2.2 m rfl rfl).2.1, (h.2 0 e.1 e.2.1 e.2.2 m rfl rfl).2.2, by simpa using h.1, fun i k v n x h1 h2 => h.2 (i + 1) k v n x (by simpa using h1) (by simpa using h2)⟩

/-- What is found. -/
theorem findNow_ent {kt : TypeId} {ki : TI} (ht : tab P kt = some ki) {c : Cx} {k : AVal} {u : Value} (hk : keyOk ki.kind k = true) (hu : VRel c k u) {d : TypeDesc} (hd : P.underlying kt = some d) : ∀ {es : List (AVal × AVal × Nat)} {ms : List MapEntry} (i : Nat), EntL c es ms → keysOk ki.kind es = true →
    (Instr.findNow d u ms i = some none ∧ alook k es = none ∧ (∀ v n, aput k v n es = es ++ [(k, v, n)]) ∧ adel k es = es) ∨
    ∃ j x m, Instr.findNow d u ms i = some (some (i + j, m.val)) ∧ ms[j]? = some m ∧ m.key = u ∧ alook k es = some x ∧ VRel c x m.val ∧ (∃ k', es[j]? = some (k', x, m.born)) ∧ (∀ v n, aput k v n es = es.set j (k, v, m.born)) ∧ adel k es = es.eraseIdx j ∧ aborn k es = m.born
  | [], [], i, _, _ => .inl ⟨rfl, rfl, fun _ _ => rfl, rfl⟩
  | [], m :: ms, i, h, _ => by simpa using h.1
  | e :: es, [], i, h, _ => by simpa using h.1
  | e :: es, m :: ms, i, h, hks => by
    obtain ⟨r1, r2, rb, r3⟩ := h.tail
    simp only [keysOk, List.all_cons, Bool.and_eq_true] at hks
    obtain ⟨d', hd', hkey⟩ := keyOk_is ht hk
    rw [hd] at hd'
    injection hd' with hd'
    subst hd'
    obtain ⟨d2, hd2, hkey2⟩ := keyOk_is ht hks.1
    rw [hd] at hd2
    injection hd2 with hd2
    subst hd2
    obtain ⟨r, hr, hiff⟩ := sameNow_of_keys (hkey c u hu) (hkey2 c m.key r1)
    have hq := keq_is hk hks.1 hu r1
    by_cases he : keq k e.1 = true
    · have hm := hq.1 he
      have hrt : r = true := hiff.2 hm.symm
      subst hrt
      exact .inr ⟨0, e.2.1, m, by simp [Instr.findNow, hr], rfl, hm, by simp [alook, he], r2, ⟨e.1, by rw [rb]; rfl⟩, fun v n => by simp [aput, he, rb], by simp [adel, he], by simp [aborn, he, rb]⟩
    · have hrf : r = false := by
        cases r with
        | false => rfl
        | true => exact absurd (hq.2 (hiff.1 rfl).symm) he
      subst hrf
      rcases findNow_ent ht hk hu hd (i + 1) r3 hks.2 with ⟨h1, h2, h3, h4⟩ | ⟨j, x, m', h1, h2, h3, h4, h5, ⟨k', h6⟩, h7, h8, h9⟩
      · exact .inl ⟨by simp [Instr.findNow, hr, h1], by simp [alook, he, h2], fun v n => by simp [aput, he, h3], by simp [adel, he, h4]⟩
      · refine .inr ⟨j + 1, x, m', by simp [Instr.findNow, hr, h1]; omega, by simpa using h2, h3, by simp [alook, he, h4], h5, ⟨k', by simpa using h6⟩, fun v n => by simp [aput, he, h7], by simp [adel, he, h8], by simp [aborn, he, h9]⟩

theorem ent_of (hin : HIn ext β p h w) {id : Nat} {a : MapA} (hl : lk h id = some (.mp a)) : ∃ b ms, β id = some b ∧ w.heap[b]? = some (.map ms a.clock) ∧ EntL (cx ext β h w) a.es ms.toList := by
  obtain ⟨b, ms, h1, h2, h3, h4⟩ := hin.ob id _ hl
  exact ⟨b, ms, h1, h2, by simpa using h3, fun i k v n m h5 h6 => h4 i k v n m h5 (by simpa using h6)⟩

theorem out_lookup (hin : HIn ext β p h w) {t : TypeId} {x k y : AVal} {a u : Value} {ok : Bool} (hx : VRel (cx ext β h w) x a) (hk : VRel (cx ext β h w) k u) (hnx : Nm p x) (hy : alookup P h t x k ok = some y) :
    ∃ v, (Instr.lookup t a u ok).run P w = .ok v w ∧ VRel (cx ext β h w) y v ∧ Nm p y := by
  unfold alookup at hy
  split at hy
  case h_2 => cases hy
  rename_i kt et _ _ _ ht
  split at hy
  case h_2 => cases hy
  rename_i ki ei hki hei
  split at hy
  case isFalse => cases hy
  rename_i hko
  obtain ⟨d, hd, hkey⟩ := keyOk_is hki hko
  obtain ⟨z, hz, hz1, _⟩ := run_zero (P := P) w hei
  have zrel : VRel (cx ext β h w) ei.zero z := by rw [← hz1]; exact VRel_ofV _ z
  have znm : Nm p ei.zero := by rw [← hz1]; exact Fz.nm (Fz_ofV z) p
  have comma : ∀ (b : Bool) (q : AVal) (v : Value), VRel (cx ext β h w) q v → Nm p q → VRel (cx ext β h w) (commaA ok b q) (if ok then .tuple #[v, .bool b] else v) ∧ Nm p (commaA ok b q) := fun b q v h1 h2 => by
    unfold commaA
    cases ok with
    | false => exact ⟨h1, h2⟩
    | true =>
      refine ⟨.tuple _ _ rfl fun i q' v' e1 e2 => ?_, .tuple _ fun q' e => ?_⟩
      · match i, e1, e2 with
        | 0, e1, e2 => simp at e1 e2; subst e1; subst e2; exact h1
        | 1, e1, e2 => simp at e1 e2; subst e1; subst e2; exact .bool b
        | i + 2, e1, e2 => simp at e1
      · simp only [List.mem_cons, List.not_mem_nil, or_false] at e
        rcases e with rfl | rfl
        · exact h2
        · exact .bool b
  split at hy
  · injection hy with hy
    subst hy
    cases hx
    have hc := run_checkKey (P := P) (w := w) hd (hkey _ _ hk) true 9999
    obtain ⟨h1, h2⟩ := comma false _ _ zrel znm
    refine ⟨_, ?_, h1, h2⟩
    have hf : (Instr.findKey kt u []).run P w = .ok none w := run_findKey hd rfl
    simp [Instr.lookup, run_underlying (und_map ht), hc, hf, hz, Result.andThen]
  · rename_i id
    split at hy
    case h_2 => cases hy
    rename_i M hl
    split at hy
    case isFalse => cases hy
    rename_i hks
    obtain ⟨b, ms, hb, hw, hent⟩ := ent_of hin hl
    have ha : a = .map (some b) := by
      cases hx with | mapv _ r hok =>
      have := hok M hl
      rw [show (cx ext β h w).β id = some b from hb] at this
      injection this with this
      rw [this]
    subst ha
    have hc := run_checkKey (P := P) (w := w) hd (hkey _ _ hk) ms.isEmpty 9999
    rcases findNow_ent hki hko hk hd 0 hent hks with ⟨h1, h2, h3, h4⟩ | ⟨j, x, m, h1, h2, h3, h4, h5, ⟨k', h6⟩, h7, h8, h9⟩
    · rw [h2] at hy
      injection hy with hy
      subst hy
      obtain ⟨e1, e2⟩ := comma false _ _ zrel znm
      refine ⟨_, ?_, e1, e2⟩
      simp [Instr.lookup, run_underlying (und_map ht), Go.MapKept.run_getObj_map hw, hc, run_findKey hd h1, hz, Result.andThen]
    · rw [h4] at hy
      injection hy with hy
      subst hy
      obtain ⟨e1, e2⟩ := comma true _ _ h5 ((hin.nm id _ hl).2 _ (List.mem_of_getElem? h6)).2
      refine ⟨_, ?_, e1, e2⟩
      simp [Instr.lookup, run_underlying (und_map ht), Go.MapKept.run_getObj_map hw, hc, run_findKey hd h1, Result.andThen]
  · cases hy

/-- A map is written over. -/
theorem map_upd (hin : HIn ext β p h w) {id b : Nat} {M M' : MapA} {ms ms' : Array MapEntry} {clock : Nat} (hl : lk h id = some (.mp M)) (hb : β id = some b) (hw : w.heap[b]? = some (.map ms clock)) (hnm : (Ob.mp M').nm p)
    (he : EntL (cx ext β h w) M'.es ms'.toList) :
    HIn ext β p (hset h id (.mp M')) { w with heap := w.heap.setIfInBounds b (.map ms' M'.clock) } ∧ Evo (owns β h) w (owns β (hset h id (.mp M'))) { w with heap := w.heap.setIfInBounds b (.map ms' M'.clock) } ∧
      ∀ q, Step q (cx ext β h w) (cx ext β (hset h id (.mp M')) { w with heap := w.heap.setIfInBounds b (.map ms' M'.clock) }) := by
  obtain ⟨s1, s2⟩ := heap_set (o' := .map ms' M'.clock) hw
  refine HIn.upd hin hl hb s2 ⟨by simp, rfl, rfl, rfl⟩ (fun k x hk => ?_) trivial hnm fun st => ?_
  · by_cases e : k = b
    · subst e
      simp [World.shape?, hw] at hk
    · simp only [World.shape?] at hk ⊢
      rw [s2 k e]
      exact hk
  · exact ⟨b, ms', hb, s1, by simpa using he.1, fun i k v n m h1 h2 => by
      have h3 := he.2 i k v n m h1 (by simpa using h2)
      have h4 := hnm (k, v, n) (List.mem_of_getElem? h1)
      exact ⟨h3.1.step (st p) h4.1, h3.2.1.step (st p) h4.2, h3.2.2⟩⟩

/-- An entry is added. -/
theorem ent_push {c : Cx} {es : List (AVal × AVal × Nat)} {ms : Array MapEntry} {k z : AVal} {u v : Value} {n : Nat} (hent : EntL c es ms.toList) (hk : VRel c k u) (hv : VRel c z v) : EntL c (es ++ [(k, z, n)]) (ms.push { key := u, val := v, born := n }).toList := by
  rw [Array.toList_push]
  refine ⟨by simp [hent.1], fun i k2 v2 n2 m2 e1 e2 => ?_⟩
  rcases Nat.lt_or_ge i es.length with hi | hi
  · rw [List.getElem?_append_left hi] at e1
    rw [List.getElem?_append_left (by rw [hent.1]; exact hi)] at e2
    exact hent.2 i k2 v2 n2 m2 e1 e2
  · rw [List.getElem?_append_right hi] at e1
    rw [List.getElem?_append_right (by rw [hent.1]; exact hi), hent.1] at e2
    cases hz : i - es.length with
    | zero =>
      rw [hz] at e1 e2
      simp at e1 e2
      obtain ⟨rfl, rfl, rfl⟩ := e1
      subst e2
      exact ⟨hk, hv, rfl⟩
    | succ n => rw [hz] at e1; simp at e1

/-- An entry is changed. -/
theorem ent_modify {c : Cx} {es : List (AVal × AVal × Nat)} {ms : Array MapEntry} {f : MapEntry → MapEntry} {j n : Nat} {m : MapEntry} {k z : AVal} (hent : EntL c es ms.toList) (hj : ms.toList[j]? = some m) (hk : VRel c k (f m).key) (hv : VRel c z (f m).val) (hn : (f m).born = n) :
    EntL c (es.set j (k, z, n)) (ms.modify j f).toList := by
  rw [Array.toList_modify]
  refine ⟨by simp [hent.1], fun i k2 v2 n2 m2 e1 e2 => ?_⟩
  rw [List.getElem?_modify] at e2
  rw [List.getElem?_set] at e1
  by_cases hi : j = i
  · subst hi
    rw [if_pos rfl] at e1
    split at e1
    case isFalse => cases e1
    injection e1 with e1
    injection e1 with e3 e4
    injection e4 with e4 e5
    subst e3
    subst e4
    subst e5
    rw [hj] at e2
    simp at e2
    subst e2
    exact ⟨hk, hv, hn⟩
  · rw [if_neg hi] at e1
    simp [hi] at e2
    exact hent.2 i k2 v2 n2 m2 e1 (by simpa using e2)

theorem nm_push {es : List (AVal × AVal × Nat)} {k z : AVal} {n c : Nat} {q : Nat → Prop} (h0 : ∀ e, e ∈ es → Nm q e.1 ∧ Nm q e.2.1) (hk : Nm q k) (hz : Nm q z) : (Ob.mp ⟨es ++ [(k, z, n)], c⟩).nm q := by
  intro e he
  rcases List.mem_append.1 he with he | he
  · exact h0 e he
  · simp only [List.mem_cons, List.not_mem_nil, or_false] at he
    subst he
    exact ⟨hk, hz⟩

theorem nm_setE {es : List (AVal × AVal × Nat)} {k z : AVal} {j n c : Nat} {q : Nat → Prop} (h0 : ∀ e, e ∈ es → Nm q e.1 ∧ Nm q e.2.1) (hk : Nm q k) (hz : Nm q z) : (Ob.mp ⟨es.set j (k, z, n), c⟩).nm q := by
  intro e he
  rcases List.mem_or_eq_of_mem_set he with he | rfl
  · exact h0 e he
  · exact ⟨hk, hz⟩

theorem out_mapUpdate (hin : HIn ext β p h w) {t : TypeId} {x k z : AVal} {h' : Heap} {a u v : Value} (hx : VRel (cx ext β h w) x a) (hk : VRel (cx ext β h w) k u) (hv : VRel (cx ext β h w) z v) (hnk : Nm p k) (hnv : Nm p z) (hy : amapUpdate P h t x k z = some h') :
    Out P ext β p h w fresh (do Instr.mapUpdate t a u v; pure .skip) .junk h' := by
  unfold amapUpdate at hy
  split at hy
  case h_2 => cases hy
  rename_i kt et _ _ _ ht
  split at hy
  case h_2 => cases hy
  rename_i ki hki
  split at hy
  case isFalse => cases hy
  rename_i hko
  obtain ⟨d, hd, hkey⟩ := keyOk_is hki hko
  split at hy
  case h_2 => cases hy
  rename_i id
  split at hy
  case h_2 => cases hy
  rename_i M hl
  split at hy
  case isFalse => cases hy
  rename_i hks
  injection hy with hy
  subst hy
  obtain ⟨b, ms, hb, hw, hent⟩ := ent_of hin hl
  have ha : a = .map (some b) := by
    cases hx with | mapv _ r hok =>
    have := hok M hl
    rw [show (cx ext β h w).β id = some b from hb] at this
    injection this with this
    rw [this]
  subst ha
  have hc := run_checkKey (P := P) (w := w) hd (hkey _ _ hk) false 9999
  have hnm0 := (hin.nm id _ hl).2
  rcases findNow_ent hki hko hk hd 0 hent hks with ⟨h1, h2, h3, h4⟩ | ⟨j, y, m, h1, h2, h3, h4, h5, ⟨k', h6⟩, h7, h8, h9⟩
  · rw [h2, h3, Option.isSome_none, if_neg Bool.false_ne_true]
    obtain ⟨k1, k2, k3⟩ := map_upd (M' := ⟨M.es ++ [(k, z, M.clock)], M.clock + 1⟩) hin hl hb hw (nm_push hnm0 hnk hnv) (ent_push hent hk hv)
    refine ⟨.skip, undef, _, β, ?_, .inr ⟨rfl, rfl⟩, k1.mono fun _ => .inl, .junk _, .junk, k2, k3 _⟩
    simp [Instr.mapUpdate, run_underlying (und_map ht), Go.MapKept.run_getObj_map hw, hc, run_findKey hd h1, Go.MapKept.run_setObj_map _ hw, Result.andThen]
  · rw [h4, h7, Option.isSome_some, if_pos rfl]
    have hj : ms[j]? = some m := by simpa using h2
    obtain ⟨k1, k2, k3⟩ := map_upd (M' := ⟨M.es.set j (k, z, m.born), M.clock⟩) hin hl hb hw (nm_setE hnm0 hnk hnv) (ent_modify (f := fun e => { e with key := u, val := v }) hent h2 hk hv rfl)
    refine ⟨.skip, undef, _, β, ?_, .inr ⟨rfl, rfl⟩, k1.mono fun _ => .inl, .junk _, .junk, k2, k3 _⟩
    simp [Instr.mapUpdate, run_underlying (und_map ht), Go.MapKept.run_getObj_map hw, hc, run_findKey hd h1, hj, h3, run_keyThatStays (hkey _ _ hk), Go.MapKept.run_setObj_map _ hw, Result.andThen]

theorem out_delete (hin : HIn ext β p h w) {t kt0 ty : TypeId} {x k y : AVal} {h' : Heap} {a u : Value} (hx : VRel (cx ext β h w) x a) (hk : VRel (cx ext β h w) k u) (hy : adelete P h t x k = some (y, h')) :
    Out P ext β p h w fresh (do pure (.value (← Builtin.delete_ #[t, kt0] ty #[a, u]))) y h' := by
  unfold adelete at hy
  split at hy
  case h_2 => cases hy
  rename_i kt et _ _ _ ht
  split at hy
  case h_2 => cases hy
  rename_i ki hki
  split at hy
  case isFalse => cases hy
  rename_i hko
  obtain ⟨d, hd, hkey⟩ := keyOk_is hki hko
  split at hy
  case h_2 => cases hy
  rename_i id
  split at hy
  case h_2 => cases hy
  rename_i M hl
  split at hy
  case isFalse => cases hy
  rename_i hks
  injection hy with hy
  injection hy with e1 e2
  subst e1 e2
  obtain ⟨b, ms, hb, hw, hent⟩ := ent_of hin hl
  have ha : a = .map (some b) := by
    cases hx with | mapv _ r hok =>
    have := hok M hl
    rw [show (cx ext β h w).β id = some b from hb] at this
    injection this with this
    rw [this]
  subst ha
  have hc := run_checkKey (P := P) (w := w) hd (hkey _ _ hk) ms.isEmpty 9999
  have hnm0 := (hin.nm id _ hl).2
  rcases findNow_ent hki hko hk hd 0 hent hks with ⟨h1, h2, h3, h4⟩ | ⟨j, y, m, h1, h2, h3, h4, h5, ⟨k', h6⟩, h7, h8, h9⟩
  · obtain ⟨k1, k2, k3⟩ := map_upd (M' := ⟨adel k M.es, M.clock⟩) (ms' := ms) hin hl hb hw (by rw [h4]; exact hnm0) (by rw [h4]; exact hent)
    refine ⟨.value (.tuple #[]), .tuple #[], _, β, ?_, .inl rfl, k1.mono fun _ => .inl, .tuple _ _ rfl (fun i x v h => by simp at h), .tuple [] (by simp), k2, k3 _⟩
    simp [Builtin.delete_, run_underlying (und_map ht), Go.MapKept.run_getObj_map hw, hc, run_findKey hd h1, Go.MapKept.run_setObj_map _ hw, Result.andThen]
  · have hlt : j < ms.size := by
      have := (List.getElem?_eq_some_iff.1 h2).1
      simpa using this
    have hE : EntL (cx ext β h w) (adel k M.es) (ms.eraseIdxIfInBounds j).toList := by
      rw [h8, Array.eraseIdxIfInBounds, dif_pos hlt, Array.toList_eraseIdx]
      have hlt2 : j < M.es.length := (List.getElem?_eq_some_iff.1 h6).1
      refine ⟨by rw [List.length_eraseIdx, List.length_eraseIdx, if_pos hlt2, if_pos (by simpa using hlt), hent.1], fun i k2 v2 n2 m2 e1 e2 => ?_⟩
      rw [List.getElem?_eraseIdx] at e1 e2
      split at e1
      · rename_i hi
        rw [if_pos hi] at e2
        exact hent.2 i k2 v2 n2 m2 e1 e2
      · rename_i hi
        rw [if_neg hi] at e2
        exact hent.2 (i + 1) k2 v2 n2 m2 e1 e2
    obtain ⟨k1, k2, k3⟩ := map_upd (M' := ⟨adel k M.es, M.clock⟩) hin hl hb hw (by rw [h8]; exact fun e he => hnm0 e (List.mem_of_mem_eraseIdx he)) hE
    refine ⟨.value (.tuple #[]), .tuple #[], _, β, ?_, .inl rfl, k1.mono fun _ => .inl, .tuple _ _ rfl (fun i x v h => by simp at h), .tuple [] (by simp), k2, k3 _⟩
    simp [Builtin.delete_, run_underlying (und_map ht), Go.MapKept.run_getObj_map hw, hc, run_findKey hd h1, Go.MapKept.run_setObj_map _ hw, Result.andThen]

/-- An entry is got ahead of a store. -/
theorem out_mapEntry (hin : HIn ext β p h w) {t : TypeId} {x k y : AVal} {h' : Heap} {a u : Value} (hx : VRel (cx ext β h w) x a) (hk : VRel (cx ext β h w) k u) (hnk : Nm p k) (hy : amapEntry P h t x k = some (y, h')) :
    Out P ext β p h w fresh (do pure (.value (← Instr.mapEntry t a u))) y h' := by
  unfold amapEntry at hy
  split at hy
  case h_2 => cases hy
  rename_i kt et _ _ _ ht
  split at hy
  case h_2 => cases hy
  rename_i ki ei hki hei
  split at hy
  case isFalse => cases hy
  rename_i hko
  obtain ⟨d, hd, hkey⟩ := keyOk_is hki hko
  obtain ⟨z, hz, hz1, _⟩ := run_zero (P := P) w hei
  have zrel : VRel (cx ext β h w) ei.zero z := by rw [← hz1]; exact VRel_ofV _ z
  have znm : Nm p ei.zero := by rw [← hz1]; exact Fz.nm (Fz_ofV z) p
  split at hy
  case h_2 => cases hy
  rename_i id
  split at hy
  case h_2 => cases hy
  rename_i M hl
  split at hy
  case isFalse => cases hy
  rename_i hks
  obtain ⟨b, ms, hb, hw, hent⟩ := ent_of hin hl
  have ha : a = .map (some b) := by
    cases hx with | mapv _ r hok =>
    have := hok M hl
    rw [show (cx ext β h w).β id = some b from hb] at this
    injection this with this
    rw [this]
  subst ha
  have hc := run_checkKey (P := P) (w := w) hd (hkey _ _ hk) false 9999
  have hnm0 := (hin.nm id _ hl).2
  have pair : ∀ (c : Cx) (q : Nat → Prop) (x1 : AVal) (v1 : Value) (n : Nat), VRel c x1 v1 → Nm q x1 → VRel c (.tuple [x1, .int .i64 n]) (.tuple #[v1, goInt n]) ∧ Nm q (.tuple [x1, .int .i64 n]) := fun c q x1 v1 n h1 h2 => by
    refine ⟨.tuple _ _ rfl fun i q' v' e1 e2 => ?_, .tuple _ fun q' e => ?_⟩
    · match i, e1, e2 with
      | 0, e1, e2 => simp at e1 e2; subst e1; subst e2; exact h1
      | 1, e1, e2 => simp at e1 e2; subst e1; subst e2; exact .int _ _
      | i + 2, e1, e2 => simp at e1
    · simp only [List.mem_cons, List.not_mem_nil, or_false] at e
      rcases e with rfl | rfl
      · exact h2
      · exact .int _ _
  rcases findNow_ent hki hko hk hd 0 hent hks with ⟨h1, h2, h3, h4⟩ | ⟨j, y', m, h1, h2, h3, h4, h5, ⟨k', h6⟩, h7, h8, h9⟩
  · rw [h2] at hy
    injection hy with hy
    injection hy with e1 e2
    subst e1 e2
    rw [h3]
    obtain ⟨k1, k2, k3⟩ := map_upd (M' := ⟨M.es ++ [(k, ei.zero, M.clock)], M.clock + 1⟩) hin hl hb hw (nm_push hnm0 hnk znm) (ent_push hent hk zrel)
    obtain ⟨q1, q2⟩ := pair _ p _ _ M.clock (zrel.step (k3 p) znm) znm
    refine ⟨.value (.tuple #[z, goInt M.clock]), .tuple #[z, goInt M.clock], _, β, ?_, .inl rfl, k1.mono fun _ => .inl, q1, q2.mono fun _ => .inl, k2, k3 _⟩
    simp [Instr.mapEntry, run_underlying (und_map ht), Go.MapKept.run_getObj_map hw, hc, run_findKey hd h1, hz, Go.MapKept.run_setObj_map _ hw, Result.andThen]
  · rw [h4] at hy
    injection hy with hy
    injection hy with e1 e2
    subst e1 e2
    rw [h7, h9]
    have hj : ms[j]? = some m := by simpa using h2
    have hy' : Nm p y' := (hnm0 _ (List.mem_of_getElem? h6)).2
    obtain ⟨k1, k2, k3⟩ := map_upd (M' := ⟨M.es.set j (k, y', m.born), M.clock⟩) hin hl hb hw (nm_setE hnm0 hnk hy') (ent_modify (f := fun e => { e with key := u }) hent h2 hk h5 rfl)
    obtain ⟨q1, q2⟩ := pair _ p _ _ m.born (h5.step (k3 p) hy') hy'
    refine ⟨.value (.tuple #[m.val, goInt m.born]), .tuple #[m.val, goInt m.born], _, β, ?_, .inl rfl, k1.mono fun _ => .inl, q1, q2.mono fun _ => .inl, k2, k3 _⟩
    simp [Instr.mapEntry, run_underlying (und_map ht), Go.MapKept.run_getObj_map hw, hc, run_findKey hd h1, hj, h3, run_keyThatStays (hkey _ _ hk), Go.MapKept.run_setObj_map _ hw, Result.andThen]

theorem stamp_ent {c : Cx} {b : Int} {z : AVal} {v : Value} (hv : VRel c z v) : ∀ {es es' : List (AVal × AVal × Nat)} {ms : List MapEntry}, EntL c es ms → astamp b z es = some es' →
    ∃ j, ms.findIdx? (fun e => (e.born : Int) == b) = some j ∧ EntL c es' (ms.modify j fun e => { e with val := v }) ∧ ∀ e, e ∈ es' → (∃ e0, e0 ∈ es ∧ e.1 = e0.1 ∧ (e.2.1 = e0.2.1 ∨ e.2.1 = z))
  | [], es', ms, _, h => by cases h
  | e :: es, es', [], h, _ => by simpa using h.1
  | e :: es, es', m :: ms, h, hs => by
    obtain ⟨r1, r2, rb, r3⟩ := h.tail
    simp only [astamp] at hs
    split at hs
    · rename_i he
      injection hs with hs
      subst hs
      refine ⟨0, by simp [List.findIdx?_cons, rb, he], ⟨by simpa using r3.1, fun i k2 v2 n2 m2 e1 e2 => ?_⟩, fun x hx => ?_⟩
      · cases i with
        | zero =>
          simp at e1 e2
          obtain ⟨rfl, rfl, rfl⟩ := e1
          subst e2
          exact ⟨r1, hv, rb⟩
        | succ i => exact r3.2 i k2 v2 n2 m2 (by simpa using e1) (by simpa using e2)
      · rcases List.mem_cons.1 hx with rfl | hx
        · exact ⟨e, List.mem_cons_self, rfl, .inr rfl⟩
        · exact ⟨x, List.mem_cons_of_mem _ hx, rfl, .inl rfl⟩
    · rename_i he
      cases hq : astamp b z es with
      | none => rw [hq] at hs; cases hs
      | some es2 =>
        rw [hq] at hs
        injection hs with hs
        subst hs
        obtain ⟨j, f1, f2, f3⟩ := stamp_ent hv r3 hq
        refine ⟨j + 1, by simp [List.findIdx?_cons, rb, he, f1], ⟨by simpa using f2.1, fun i k2 v2 n2 m2 e1 e2 => ?_⟩, fun x hx => ?_⟩
        · cases i with
          | zero =>
            simp at e1 e2
            subst e1
            subst e2
            exact ⟨r1, r2, rb⟩
          | succ i => exact f2.2 i k2 v2 n2 m2 (by simpa using e1) (by simpa using e2)
        · rcases List.mem_cons.1 hx with rfl | hx
          · exact ⟨x, List.mem_cons_self, rfl, .inl rfl⟩
          · obtain ⟨e0, g1, g2⟩ := f3 x hx
            exact ⟨e0, List.mem_cons_of_mem _ g1, g2⟩

theorem out_entryStore (hin : HIn ext β p h w) {t : TypeId} {x k z : AVal} {h' : Heap} {a u v : Value} (hx : VRel (cx ext β h w) x a) (hk : VRel (cx ext β h w) k u) (hv : VRel (cx ext β h w) z v) (hnv : Nm p z) (hy : aentryStore h x k z = some h') :
    Out P ext β p h w fresh (do Instr.entryStore t a u v; pure .skip) .junk h' := by
  unfold aentryStore at hy
  split at hy
  case h_2 => cases hy
  rename_i id b0
  split at hy
  case h_2 => cases hy
  rename_i M hl
  obtain ⟨es', hs, hy⟩ := Option.map_eq_some_iff.1 hy
  subst hy
  obtain ⟨b, ms, hb, hw, hent⟩ := ent_of hin hl
  have ha : a = .map (some b) := by
    cases hx with | mapv _ r hok =>
    have := hok M hl
    rw [show (cx ext β h w).β id = some b from hb] at this
    injection this with this
    rw [this]
  subst ha
  cases hk
  obtain ⟨j, f1, f2, f3⟩ := stamp_ent hv hent hs
  have hnm0 := (hin.nm id _ hl).2
  obtain ⟨k1, k2, k3⟩ := map_upd (M' := ⟨es', M.clock⟩) (ms' := ms.modify j fun e => { e with val := v }) hin hl hb hw (fun e he => by
    obtain ⟨e0, g1, g2, g3⟩ := f3 e he
    have := hnm0 e0 g1
    rw [g2]
    rcases g3 with g3 | g3
    · rw [g3]; exact this
    · rw [g3]; exact ⟨this.1, hnv⟩) (by rw [Array.toList_modify]; exact f2)
  refine ⟨.skip, undef, _, β, ?_, .inr ⟨rfl, rfl⟩, k1.mono fun _ => .inl, .junk _, .junk, k2, k3 _⟩
  have f4 : ms.findIdx? (fun e => (e.born : Int) == b0) = some j := by
    rw [← f1]
    cases ms
    simp
  simp [Instr.entryStore, Go.MapKept.run_getObj_map hw, asInt, asIntOf, f4, Go.MapKept.run_setObj_map _ hw, Result.andThen]

/-- A map is made. -/
theorem out_makeMap (hin : HIn ext β p h w) (hpf : ¬ p fresh) {t : TypeId} : Out P ext β p h w fresh (do pure (.value (← Instr.makeMap t none))) (.mapv fresh) ((fresh, .mp ⟨[], 0⟩) :: h) := by
  obtain ⟨k1, k2, k3⟩ := HIn.new (w' := w.alloc (.map #[] 0)) (o := .map #[] 0) hin (id := fresh) (q := fun j => p j ∨ j = fresh) (ob := .mp ⟨[], 0⟩) hpf (fun _ => .inl) (.inr rfl) ⟨rfl, rfl, rfl, rfl⟩ (fun e he => by cases he)
    (fun st => ⟨w.heap.size, #[], by simp [cx], (heap_alloc w _).1, rfl, fun i k v n m h1 => by simp at h1⟩)
  refine ⟨.value (.map (some w.heap.size)), .map (some w.heap.size), _, newβ β fresh w.heap.size, ?_, .inl rfl, k1, .mapv _ _ fun es _ => by simp [cx, newβ], .mapv _ (.inr rfl), k2, k3⟩
  simp [Instr.makeMap, Result.andThen]

theorem nm_mapv (q : Nat → Prop) (id : Nat) : Nm q (.mapv id) ↔ q id := ⟨fun h => by cases h with | mapv _ h => exact h, fun h => .mapv id h⟩

/-- Maps of numbers to numbers. -/
abbrev IM := List (Int × Int × Nat)
def mpe (m : IM) : List (AVal × AVal × Nat) := m.map fun e => (.int .i64 e.1, .int .i64 e.2.1, e.2.2)

def mget (k : Int) : IM → Option Int
  | [] => none
  | e :: m => if k = e.1 then some e.2.1 else mget k m
def mput (k v : Int) (n : Nat) : IM → IM
  | [] => [(k, v, n)]
  | e :: m => if k = e.1 then (k, v, e.2.2) :: m else e :: mput k v n m
def mdel (k : Int) : IM → IM
  | [] => []
  | e :: m => if k = e.1 then m else e :: mdel k m
def mborn (k : Int) : IM → Nat
  | [] => 0
  | e :: m => if k = e.1 then e.2.2 else mborn k m
def mstamp (b : Int) (v : Int) : IM → Option IM
  | [] => none
  | e :: m => if (e.2.2 : Int) == b then some ((e.1, v, e.2.2) :: m) else (mstamp b v m).map (e :: ·)

theorem mpe_nil : ([] : List (AVal × AVal × Nat)) = mpe [] := rfl
theorem mpe_keys (m : IM) : keysOk (.int .i64) (mpe m) = true := by
  simp only [keysOk, mpe, List.all_map, List.all_eq_true]
  intro e _
  simp [keyOk]
theorem alook_mpe (k : Int) : ∀ m : IM, alook (.int .i64 k) (mpe m) = (mget k m).map fun v => .int .i64 v
  | [] => rfl
  | e :: m => by
    have ih := alook_mpe k m
    simp only [mpe] at ih
    simp only [mpe, List.map_cons, alook, keq, decide_eq_true_eq, mget]
    split
    · rfl
    · exact ih
theorem aput_mpe (k v : Int) (n : Nat) : ∀ m : IM, aput (.int .i64 k) (.int .i64 v) n (mpe m) = mpe (mput k v n m)
  | [] => rfl
  | e :: m => by
    have ih := aput_mpe k v n m
    simp only [mpe] at ih
    simp only [mpe, List.map_cons, aput, keq, decide_eq_true_eq, mput]
    split
    · rfl
    · rw [ih]
      rfl
theorem adel_mpe (k : Int) : ∀ m : IM, adel (.int .i64 k) (mpe m) = mpe (mdel k m)
  | [] => rfl
  | e :: m => by
    have ih := adel_mpe k m
    simp only [mpe] at ih
    simp only [mpe, List.map_cons, adel, keq, decide_eq_true_eq, mdel]
    split
    · rfl
    · rw [ih]
      rfl
theorem aborn_mpe (k : Int) : ∀ m : IM, aborn (.int .i64 k) (mpe m) = mborn k m
  | [] => rfl
  | e :: m => by
    have ih := aborn_mpe k m
    simp only [mpe] at ih
    simp only [mpe, List.map_cons, aborn, keq, decide_eq_true_eq, mborn]
    split
    · rfl
    · exact ih
theorem astamp_mpe (b v : Int) : ∀ m : IM, astamp b (.int .i64 v) (mpe m) = (mstamp b v m).map mpe
  | [] => rfl
  | e :: m => by
    have ih := astamp_mpe b v m
    simp only [mpe] at ih
    simp only [mpe, List.map_cons, astamp, mstamp]
    split
    · rfl
    · rw [ih]
      cases mstamp b v m <;> rfl
theorem mpe_onm (q : Nat → Prop) (m : IM) (c : Nat) : (Ob.mp ⟨mpe m, c⟩).nm q ↔ True := ⟨fun _ => trivial, fun _ e he => by
  simp only [mpe, List.mem_map] at he
  obtain ⟨x, _, rfl⟩ := he
  exact ⟨.int _ _, .int _ _⟩⟩

end
end Go.AM
