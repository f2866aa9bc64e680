/-
  AM, part 10 m: maps whose keys are numbers or texts: made, looked up, written, taken from.
-/
import Derived.Test.YteajjckbjgmhaaaAM10
import Derived.MapKept
set_option linter.unusedVariables false
namespace Go.AM
open Go Go.MapKept

/-- Is it a key of this kind? -/
def keyOk : TK → AVal → Bool
  | .int k, .int k' _ => decide (k' = k)
  | .str, .str _ => true
  | _, _ => false

def keq : AVal → AVal → Bool
  | .int _ a, .int _ b => decide (a = b)
  | .str a, .str b => decide (a = b)
  | _, _ => false

def alook (k : AVal) : List (AVal × AVal) → Option AVal
  | [] => none
  | e :: es => if keq k e.1 = true then some e.2 else alook k es

def aput (k v : AVal) : List (AVal × AVal) → List (AVal × AVal)
  | [] => [(k, v)]
  | e :: es => if keq k e.1 = true then (k, v) :: es else e :: aput k v es

def adel (k : AVal) : List (AVal × AVal) → List (AVal × AVal)
  | [] => []
  | e :: es => if keq k e.1 = true then es else e :: adel k es

def keysOk (kd : TK) (es : List (AVal × AVal)) : Bool := es.all fun e => keyOk kd e.1

def commaA (ok there : Bool) (v : AVal) : AVal := if ok then .tuple [v, .bool there] else v

def alookup (P : Program) (h : Heap) (t : TypeId) (x k : AVal) (ok : Bool) : Option AVal :=
  match tab P t with
  | some ⟨.map kt et, _, _, _⟩ =>
    match tab P kt, tab P et with
    | some ki, some ei =>
      if keyOk ki.kind k = true then
        match x with
        | .nilmap => some (commaA ok false ei.zero)
        | .mapv id =>
          match lk h id with
          | some (.mp es) => if keysOk ki.kind es = true then (match alook k es with | some v => some (commaA ok true v) | none => some (commaA ok false ei.zero)) else none
          | _ => none
        | _ => none
      else none
    | _, _ => none
  | _ => none

def amapUpdate (P : Program) (h : Heap) (t : TypeId) (x k v : AVal) : Option Heap :=
  match tab P t with
  | some ⟨.map kt et, _, _, _⟩ =>
    match tab P kt with
    | some ki =>
      if keyOk ki.kind k = true then
        match x with
        | .mapv id =>
          match lk h id with
          | some (.mp es) => if keysOk ki.kind es = true then some (hset h id (.mp (aput k v es))) else none
          | _ => none
        | _ => none
      else none
    | _ => none
  | _ => none

def adelete (P : Program) (h : Heap) (t : TypeId) (x k : AVal) : Option (AVal × Heap) :=
  match tab P t with
  | some ⟨.map kt et, _, _, _⟩ =>
    match tab P kt with
    | some ki =>
      if keyOk ki.kind k = true then
        match x with
        | .mapv id =>
          match lk h id with
          | some (.mp es) => if keysOk ki.kind es = true then some (.tuple [], hset h id (.mp (adel k es))) else none
          | _ => none
        | _ => none
      else none
    | _ => none
  | _ => none

section
variable {P : Program} {ext : Nat → Prop} {β : Nat → Option Nat} {p : Nat → Prop} {h : Heap} {w : World} {fresh : Nat}

theorem keyOk_is {t : TypeId} {ti : TI} (ht : tab P t = some ti) {k : AVal} (hk : keyOk ti.kind k = true) : ∃ d, P.underlying t = some d ∧ ∀ (c : Cx) v, VRel c k v → IsKey d v := by
  obtain ⟨kd, n, m, z⟩ := ti
  cases kd <;> cases k <;> simp [keyOk] at hk
  · subst hk
    refine ⟨_, und_int ht, fun c v hv => ?_⟩
    cases hv
    exact rfl
  · refine ⟨_, und_str ht, fun c v hv => ?_⟩
    cases hv
    trivial

theorem keq_is {kd : TK} {k e : AVal} (hk : keyOk kd k = true) (he : keyOk kd e = true) {c : Cx} {u v : Value} (hu : VRel c k u) (hv : VRel c e v) : keq k e = true ↔ v = u := by
  cases kd <;> cases k <;> cases e <;> simp [keyOk] at hk he
  · subst hk
    subst he
    cases hu
    cases hv
    simp only [keq, decide_eq_true_eq, Value.int.injEq, true_and]
    exact ⟨fun h => h.symm, fun h => h.symm⟩
  · cases hu
    cases hv
    simp only [keq, decide_eq_true_eq, Value.string.injEq]
    exact ⟨fun h => h.symm, fun h => h.symm⟩

/-- Entries, and what stands for them. -/
def EntL (c : Cx) (es : List (AVal × AVal)) (ms : List MapEntry) : Prop := ms.length = es.length ∧ ∀ (i : Nat) k v m, es[i]? = some (k, v) → ms[i]? = some m → VRel c k m.key ∧ VRel c v m.val

theorem EntL.tail {c : Cx} {e : AVal × AVal} {es : List (AVal × AVal)} {m : MapEntry} {ms : List MapEntry} (h : EntL c (e :: es) (m :: ms)) : VRel c e.1 m.key ∧ VRel c e.2 m.val ∧ EntL c es ms :=
  ⟨(h.2 0 e.1 e.2 m rfl rfl).1, (h.2 0 e.1 e.2 m rfl rfl).2, by simpa using h.1, fun i k v x h1 h2 => h.2 (i + 1) k v x (by simpa using h1) (by simpa using h2)⟩

/-- What is found. -/
theorem findNow_ent {kt : TypeId} {ki : TI} (ht : tab P kt = some ki) {c : Cx} {k : AVal} {u : Value} (hk : keyOk ki.kind k = true) (hu : VRel c k u) {d : TypeDesc} (hd : P.underlying kt = some d) : ∀ {es : List (AVal × AVal)} {ms : List MapEntry} (i : Nat), EntL c es ms → keysOk ki.kind es = true →
    (Instr.findNow d u ms i = some none ∧ alook k es = none ∧ (∀ v, aput k v es = es ++ [(k, v)]) ∧ adel k es = es) ∨
    ∃ j x m, Instr.findNow d u ms i = some (some (i + j, m.val)) ∧ ms[j]? = some m ∧ m.key = u ∧ alook k es = some x ∧ VRel c x m.val ∧ (∃ k', es[j]? = some (k', x)) ∧ (∀ v, aput k v es = es.set j (k, v)) ∧ adel k es = es.eraseIdx j
  | [], [], i, _, _ => .inl ⟨rfl, rfl, fun _ => rfl, rfl⟩
  | [], m :: ms, i, h, _ => by simpa using h.1
  | e :: es, [], i, h, _ => by simpa using h.1
  | e :: es, m :: ms, i, h, hks => by
    obtain ⟨r1, r2, r3⟩ := h.tail
    simp only [keysOk, List.all_cons, Bool.and_eq_true] at hks
    obtain ⟨d', hd', hkey⟩ := keyOk_is ht hk
    rw [hd] at hd'
    injection hd' with hd'
    subst hd'
    obtain ⟨d2, hd2, hkey2⟩ := keyOk_is ht hks.1
    rw [hd] at hd2
    injection hd2 with hd2
    subst hd2
    obtain ⟨r, hr, hiff⟩ := sameNow_of_keys (hkey c u hu) (hkey2 c m.key r1)
    have hq := keq_is hk hks.1 hu r1
    by_cases he : keq k e.1 = true
    · have hm := hq.1 he
      have hrt : r = true := hiff.2 hm.symm
      subst hrt
      exact .inr ⟨0, e.2, m, by simp [Instr.findNow, hr], rfl, hm, by simp [alook, he], r2, ⟨e.1, rfl⟩, fun v => by simp [aput, he], by simp [adel, he]⟩
    · have hrf : r = false := by
        cases r with
        | false => rfl
        | true => exact absurd (hq.2 (hiff.1 rfl).symm) he
      subst hrf
      rcases findNow_ent ht hk hu hd (i + 1) r3 hks.2 with ⟨h1, h2, h3, h4⟩ | ⟨j, x, m', h1, h2, h3, h4, h5, ⟨k', h6⟩, h7, h8⟩
      · exact .inl ⟨by simp [Instr.findNow, hr, h1], by simp [alook, he, h2], fun v => by simp [aput, he, h3], by simp [adel, he, h4]⟩
      · refine .inr ⟨j + 1, x, m', by simp [Instr.findNow, hr, h1]; omega, by simpa using h2, h3, by simp [alook, he, h4], h5, ⟨k', by simpa using h6⟩, fun v => by simp [aput, he, h7], by simp [adel, he, h8]⟩

theorem ent_of (hin : HIn ext β p h w) {id : Nat} {es : List (AVal × AVal)} (hl : lk h id = some (.mp es)) : ∃ b ms clock, β id = some b ∧ w.heap[b]? = some (.map ms clock) ∧ EntL (cx ext β h w) es ms.toList := by
  obtain ⟨b, ms, clock, h1, h2, h3, h4⟩ := hin.ob id _ hl
  exact ⟨b, ms, clock, h1, h2, by simpa using h3, fun i k v m h5 h6 => h4 i k v m h5 (by simpa using h6)⟩

theorem out_lookup (hin : HIn ext β p h w) {t : TypeId} {x k y : AVal} {a u : Value} {ok : Bool} (hx : VRel (cx ext β h w) x a) (hk : VRel (cx ext β h w) k u) (hnx : Nm p x) (hy : alookup P h t x k ok = some y) :
    ∃ v, (Instr.lookup t a u ok).run P w = .ok v w ∧ VRel (cx ext β h w) y v ∧ Nm p y := by
  unfold alookup at hy
  split at hy
  case h_2 => cases hy
  rename_i kt et _ _ _ ht
  split at hy
  case h_2 => cases hy
  rename_i ki ei hki hei
  split at hy
  case isFalse => cases hy
  rename_i hko
  obtain ⟨d, hd, hkey⟩ := keyOk_is hki hko
  obtain ⟨z, hz, hz1, _⟩ := run_zero (P := P) w hei
  have zrel : VRel (cx ext β h w) ei.zero z := by rw [← hz1]; exact VRel_ofV _ z
  have znm : Nm p ei.zero := by rw [← hz1]; exact Fz.nm (Fz_ofV z) p
  have comma : ∀ (b : Bool) (q : AVal) (v : Value), VRel (cx ext β h w) q v → Nm p q → VRel (cx ext β h w) (commaA ok b q) (if ok then .tuple #[v, .bool b] else v) ∧ Nm p (commaA ok b q) := fun b q v h1 h2 => by
    unfold commaA
    cases ok with
    | false => exact ⟨h1, h2⟩
    | true =>
      refine ⟨.tuple _ _ rfl fun i q' v' e1 e2 => ?_, .tuple _ fun q' e => ?_⟩
      · match i, e1, e2 with
        | 0, e1, e2 => simp at e1 e2; subst e1; subst e2; exact h1
        | 1, e1, e2 => simp at e1 e2; subst e1; subst e2; exact .bool b
        | i + 2, e1, e2 => simp at e1
      · simp only [List.mem_cons, List.not_mem_nil, or_false] at e
        rcases e with rfl | rfl
        · exact h2
        · exact .bool b
  split at hy
  · injection hy with hy
    subst hy
    cases hx
    have hc := run_checkKey (P := P) (w := w) hd (hkey _ _ hk) true 9999
    obtain ⟨h1, h2⟩ := comma false _ _ zrel znm
    refine ⟨_, ?_, h1, h2⟩
    have hf : (Instr.findKey kt u []).run P w = .ok none w := run_findKey hd rfl
    simp [Instr.lookup, run_underlying (und_map ht), hc, hf, hz, Result.andThen]
  · rename_i id
    split at hy
    case h_2 => cases hy
    rename_i es hl
    split at hy
    case isFalse => cases hy
    rename_i hks
    obtain ⟨b, ms, clock, hb, hw, hent⟩ := ent_of hin hl
    have ha : a = .map (some b) := by
      cases hx with | mapv _ r hok =>
      have := hok es hl
      rw [show (cx ext β h w).β id = some b from hb] at this
      injection this with this
      rw [this]
    subst ha
    have hc := run_checkKey (P := P) (w := w) hd (hkey _ _ hk) ms.isEmpty 9999
    rcases findNow_ent hki hko hk hd 0 hent hks with ⟨h1, h2, h3, h4⟩ | ⟨j, x, m, h1, h2, h3, h4, h5, ⟨k', h6⟩, h7, h8⟩
    · rw [h2] at hy
      injection hy with hy
      subst hy
      obtain ⟨e1, e2⟩ := comma false _ _ zrel znm
      refine ⟨_, ?_, e1, e2⟩
      simp [Instr.lookup, run_underlying (und_map ht), Go.MapKept.run_getObj_map hw, hc, run_findKey hd h1, hz, Result.andThen]
    · rw [h4] at hy
      injection hy with hy
      subst hy
      obtain ⟨e1, e2⟩ := comma true _ _ h5 ((hin.nm id _ hl).2 _ (List.mem_of_getElem? h6)).2
      refine ⟨_, ?_, e1, e2⟩
      simp [Instr.lookup, run_underlying (und_map ht), Go.MapKept.run_getObj_map hw, hc, run_findKey hd h1, Result.andThen]
  · cases hy

/-- A map is written over. -/
theorem map_upd (hin : HIn ext β p h w) {id b : Nat} {es es' : List (AVal × AVal)} {ms ms' : Array MapEntry} {clock clock' : Nat} (hl : lk h id = some (.mp es)) (hb : β id = some b) (hw : w.heap[b]? = some (.map ms clock)) (hnm : (Ob.mp es').nm p)
    (he : EntL (cx ext β h w) es' ms'.toList) :
    HIn ext β p (hset h id (.mp es')) { w with heap := w.heap.setIfInBounds b (.map ms' clock') } ∧ Evo (owns β h) w (owns β (hset h id (.mp es'))) { w with heap := w.heap.setIfInBounds b (.map ms' clock') } ∧
      ∀ q, Step q (cx ext β h w) (cx ext β (hset h id (.mp es')) { w with heap := w.heap.setIfInBounds b (.map ms' clock') }) := by
  obtain ⟨s1, s2⟩ := heap_set (o' := .map ms' clock') hw
  refine HIn.upd hin hl hb s2 ⟨by simp, rfl, rfl, rfl⟩ (fun k x hk => ?_) trivial hnm fun st => ?_
  · by_cases e : k = b
    · subst e
      simp [World.shape?, hw] at hk
    · simp only [World.shape?] at hk ⊢
      rw [s2 k e]
      exact hk
  · exact ⟨b, ms', clock', hb, s1, by simpa using he.1, fun i k v m h1 h2 => by
      have h3 := he.2 i k v m h1 (by simpa using h2)
      have h4 := hnm (k, v) (List.mem_of_getElem? h1)
      exact ⟨h3.1.step (st p) h4.1, h3.2.step (st p) h4.2⟩⟩

theorem out_mapUpdate (hin : HIn ext β p h w) {t : TypeId} {x k z : AVal} {h' : Heap} {a u v : Value} (hx : VRel (cx ext β h w) x a) (hk : VRel (cx ext β h w) k u) (hv : VRel (cx ext β h w) z v) (hnk : Nm p k) (hnv : Nm p z) (hy : amapUpdate P h t x k z = some h') :
    Out P ext β p h w fresh (do Instr.mapUpdate t a u v; pure .skip) .junk h' := by
  unfold amapUpdate at hy
  split at hy
  case h_2 => cases hy
  rename_i kt et _ _ _ ht
  split at hy
  case h_2 => cases hy
  rename_i ki hki
  split at hy
  case isFalse => cases hy
  rename_i hko
  obtain ⟨d, hd, hkey⟩ := keyOk_is hki hko
  split at hy
  case h_2 => cases hy
  rename_i id
  split at hy
  case h_2 => cases hy
  rename_i es hl
  split at hy
  case isFalse => cases hy
  rename_i hks
  injection hy with hy
  subst hy
  obtain ⟨b, ms, clock, hb, hw, hent⟩ := ent_of hin hl
  have ha : a = .map (some b) := by
    cases hx with | mapv _ r hok =>
    have := hok es hl
    rw [show (cx ext β h w).β id = some b from hb] at this
    injection this with this
    rw [this]
  subst ha
  have hc := run_checkKey (P := P) (w := w) hd (hkey _ _ hk) false 9999
  have hnm0 := (hin.nm id _ hl).2
  rcases findNow_ent hki hko hk hd 0 hent hks with ⟨h1, h2, h3, h4⟩ | ⟨j, y, m, h1, h2, h3, h4, h5, ⟨k', h6⟩, h7, h8⟩
  · have hnm : (Ob.mp (aput k z es)).nm p := by
      rw [h3]
      intro e he
      rcases List.mem_append.1 he with he | he
      · exact hnm0 e he
      · simp only [List.mem_cons, List.not_mem_nil, or_false] at he
        subst he
        exact ⟨hnk, hnv⟩
    have hE : EntL (cx ext β h w) (aput k z es) (ms.push { key := u, val := v, born := clock }).toList := by
      rw [h3, Array.toList_push]
      refine ⟨by simp [hent.1], fun i k2 v2 m2 e1 e2 => ?_⟩
      rcases Nat.lt_or_ge i es.length with hi | hi
      · rw [List.getElem?_append_left hi] at e1
        rw [List.getElem?_append_left (by rw [hent.1]; exact hi)] at e2
        exact hent.2 i k2 v2 m2 e1 e2
      · rw [List.getElem?_append_right hi] at e1
        rw [List.getElem?_append_right (by rw [hent.1]; exact hi), hent.1] at e2
        cases hz : i - es.length with
        | zero =>
          rw [hz] at e1 e2
          simp at e1 e2
          obtain ⟨rfl, rfl⟩ := e1
          subst e2
          exact ⟨hk, hv⟩
        | succ n => rw [hz] at e1; simp at e1
    obtain ⟨k1, k2, k3⟩ := map_upd (clock' := clock + 1) hin hl hb hw hnm hE
    refine ⟨.skip, undef, _, β, ?_, .inr ⟨rfl, rfl⟩, k1.mono fun _ => .inl, .junk _, .junk, k2, k3 _⟩
    simp [Instr.mapUpdate, run_underlying (und_map ht), Go.MapKept.run_getObj_map hw, hc, run_findKey hd h1, Go.MapKept.run_setObj_map _ hw, Result.andThen]
  · have hnm : (Ob.mp (aput k z es)).nm p := by
      rw [h7]
      intro e he
      rcases List.mem_or_eq_of_mem_set he with he | rfl
      · exact hnm0 e he
      · exact ⟨hnk, hnv⟩
    have hj : ms[j]? = some m := by simpa using h2
    have hE : EntL (cx ext β h w) (aput k z es) (ms.modify j fun e => { e with key := u, val := v }).toList := by
      rw [h7, Array.toList_modify]
      refine ⟨by simp [hent.1], fun i k2 v2 m2 e1 e2 => ?_⟩
      rw [List.getElem?_modify] at e2
      rw [List.getElem?_set] at e1
      by_cases hi : j = i
      · subst hi
        rw [if_pos rfl] at e1
        split at e1
        case isFalse => cases e1
        injection e1 with e1
        injection e1 with e3 e4
        subst e3
        subst e4
        rw [h2] at e2
        simp at e2
        subst e2
        exact ⟨hk, hv⟩
      · rw [if_neg hi] at e1
        simp [hi] at e2
        exact hent.2 i k2 v2 m2 e1 (by simpa using e2)
    obtain ⟨k1, k2, k3⟩ := map_upd (clock' := clock) hin hl hb hw hnm hE
    refine ⟨.skip, undef, _, β, ?_, .inr ⟨rfl, rfl⟩, k1.mono fun _ => .inl, .junk _, .junk, k2, k3 _⟩
    simp [Instr.mapUpdate, run_underlying (und_map ht), Go.MapKept.run_getObj_map hw, hc, run_findKey hd h1, hj, h3, run_keyThatStays (hkey _ _ hk), Go.MapKept.run_setObj_map _ hw, Result.andThen]

theorem out_delete (hin : HIn ext β p h w) {t kt0 ty : TypeId} {x k y : AVal} {h' : Heap} {a u : Value} (hx : VRel (cx ext β h w) x a) (hk : VRel (cx ext β h w) k u) (hy : adelete P h t x k = some (y, h')) :
    Out P ext β p h w fresh (do pure (.value (← Builtin.delete_ #[t, kt0] ty #[a, u]))) y h' := by
  unfold adelete at hy
  split at hy
  case h_2 => cases hy
  rename_i kt et _ _ _ ht
  split at hy
  case h_2 => cases hy
  rename_i ki hki
  split at hy
  case isFalse => cases hy
  rename_i hko
  obtain ⟨d, hd, hkey⟩ := keyOk_is hki hko
  split at hy
  case h_2 => cases hy
  rename_i id
  split at hy
  case h_2 => cases hy
  rename_i es hl
  split at hy
  case isFalse => cases hy
  rename_i hks
  injection hy with hy
  injection hy with e1 e2
  subst e1 e2
  obtain ⟨b, ms, clock, hb, hw, hent⟩ := ent_of hin hl
  have ha : a = .map (some b) := by
    cases hx with | mapv _ r hok =>
    have := hok es hl
    rw [show (cx ext β h w).β id = some b from hb] at this
    injection this with this
    rw [this]
  subst ha
  have hc := run_checkKey (P := P) (w := w) hd (hkey _ _ hk) ms.isEmpty 9999
  have hnm0 := (hin.nm id _ hl).2
  rcases findNow_ent hki hko hk hd 0 hent hks with ⟨h1, h2, h3, h4⟩ | ⟨j, y, m, h1, h2, h3, h4, h5, ⟨k', h6⟩, h7, h8⟩
  · obtain ⟨k1, k2, k3⟩ := map_upd (es' := adel k es) (ms' := ms) (clock' := clock) hin hl hb hw (by rw [h4]; exact hnm0) (by rw [h4]; exact hent)
    refine ⟨.value (.tuple #[]), .tuple #[], _, β, ?_, .inl rfl, k1.mono fun _ => .inl, .tuple _ _ rfl (fun i x v h => by simp at h), .tuple [] (by simp), k2, k3 _⟩
    simp [Builtin.delete_, run_underlying (und_map ht), Go.MapKept.run_getObj_map hw, hc, run_findKey hd h1, Go.MapKept.run_setObj_map _ hw, Result.andThen]
  · have hlt : j < ms.size := by
      have := (List.getElem?_eq_some_iff.1 h2).1
      simpa using this
    have hE : EntL (cx ext β h w) (adel k es) (ms.eraseIdxIfInBounds j).toList := by
      rw [h8, Array.eraseIdxIfInBounds, dif_pos hlt, Array.toList_eraseIdx]
      have hlt2 : j < es.length := (List.getElem?_eq_some_iff.1 h6).1
      refine ⟨by rw [List.length_eraseIdx, List.length_eraseIdx, if_pos hlt2, if_pos (by simpa using hlt), hent.1], fun i k2 v2 m2 e1 e2 => ?_⟩
      rw [List.getElem?_eraseIdx] at e1 e2
      split at e1
      · rename_i hi
        rw [if_pos hi] at e2
        exact hent.2 i k2 v2 m2 e1 e2
      · rename_i hi
        rw [if_neg hi] at e2
        exact hent.2 (i + 1) k2 v2 m2 e1 e2
    obtain ⟨k1, k2, k3⟩ := map_upd (clock' := clock) hin hl hb hw (by rw [h8]; exact fun e he => hnm0 e (List.mem_of_mem_eraseIdx he)) hE
    refine ⟨.value (.tuple #[]), .tuple #[], _, β, ?_, .inl rfl, k1.mono fun _ => .inl, .tuple _ _ rfl (fun i x v h => by simp at h), .tuple [] (by simp), k2, k3 _⟩
    simp [Builtin.delete_, run_underlying (und_map ht), Go.MapKept.run_getObj_map hw, hc, run_findKey hd h1, Go.MapKept.run_setObj_map _ hw, Result.andThen]

/-- A map is made. -/
theorem out_makeMap (hin : HIn ext β p h w) (hpf : ¬ p fresh) {t : TypeId} : Out P ext β p h w fresh (do pure (.value (← Instr.makeMap t none))) (.mapv fresh) ((fresh, .mp []) :: h) := by
  obtain ⟨k1, k2, k3⟩ := HIn.new (w' := w.alloc (.map #[] 0)) (o := .map #[] 0) hin (id := fresh) (q := fun j => p j ∨ j = fresh) (ob := .mp []) hpf (fun _ => .inl) (.inr rfl) ⟨rfl, rfl, rfl, rfl⟩ (fun e he => by cases he)
    (fun st => ⟨w.heap.size, #[], 0, by simp [cx], (heap_alloc w _).1, rfl, fun i k v m h1 => by simp at h1⟩)
  refine ⟨.value (.map (some w.heap.size)), .map (some w.heap.size), _, newβ β fresh w.heap.size, ?_, .inl rfl, k1, .mapv _ _ fun es _ => by simp [cx, newβ], .mapv _ (.inr rfl), k2, k3⟩
  simp [Instr.makeMap, Result.andThen]

theorem nm_mapv (q : Nat → Prop) (id : Nat) : Nm q (.mapv id) ↔ q id := ⟨fun h => by cases h with | mapv _ h => exact h, fun h => .mapv id h⟩

/-- Maps of numbers to numbers. -/
def mpe (m : List (Int × Int)) : List (AVal × AVal) := m.map fun e => (.int .i64 e.1, .int .i64 e.2)

def mget (k : Int) : List (Int × Int) → Option Int
  | [] => none
  | e :: m => if k = e.1 then some e.2 else mget k m
def mput (k v : Int) : List (Int × Int) → List (Int × Int)
  | [] => [(k, v)]
  | e :: m => if k = e.1 then (k, v) :: m else e :: mput k v m
def mdel (k : Int) : List (Int × Int) → List (Int × Int)
  | [] => []
  | e :: m => if k = e.1 then m else e :: mdel k m

theorem mpe_nil : ([] : List (AVal × AVal)) = mpe [] := rfl
theorem mpe_keys (m : List (Int × Int)) : keysOk (.int .i64) (mpe m) = true := by
  simp only [keysOk, mpe, List.all_map, List.all_eq_true]
  intro e _
  simp [keyOk]
theorem alook_mpe (k : Int) : ∀ m : List (Int × Int), alook (.int .i64 k) (mpe m) = (mget k m).map fun v => .int .i64 v
  | [] => rfl
  | e :: m => by
    have ih := alook_mpe k m
    simp only [mpe] at ih
    simp only [mpe, List.map_cons, alook, keq, decide_eq_true_eq, mget]
    split
    · rfl
    · exact ih
theorem aput_mpe (k v : Int) : ∀ m : List (Int × Int), aput (.int .i64 k) (.int .i64 v) (mpe m) = mpe (mput k v m)
  | [] => rfl
  | e :: m => by
    have ih := aput_mpe k v m
    simp only [mpe] at ih
    simp only [mpe, List.map_cons, aput, keq, decide_eq_true_eq, mput]
    split
    · rfl
    · rw [ih]
      rfl
theorem adel_mpe (k : Int) : ∀ m : List (Int × Int), adel (.int .i64 k) (mpe m) = mpe (mdel k m)
  | [] => rfl
  | e :: m => by
    have ih := adel_mpe k m
    simp only [mpe] at ih
    simp only [mpe, List.map_cons, adel, keq, decide_eq_true_eq, mdel]
    split
    · rfl
    · rw [ih]
      rfl
theorem mpe_onm (q : Nat → Prop) (m : List (Int × Int)) : (Ob.mp (mpe m)).nm q ↔ True := ⟨fun _ => trivial, fun _ e he => by
  simp only [mpe, List.mem_map] at he
  obtain ⟨x, _, rfl⟩ := he
  exact ⟨.int _ _, .int _ _⟩⟩

end
end Go.AM
