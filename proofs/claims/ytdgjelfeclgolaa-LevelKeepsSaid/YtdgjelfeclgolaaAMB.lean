/-
  AM, merged: 10 10m 11 12 13 14 15 16.
-/
import Derived.Test.YtdgjelfeclgolaaAMA
import Derived.MapKept
import Derived.Orders

section
namespace Go.AM
open Go

def srcB (P : Program) (size : Nat) (xt : TypeId) (x : AVal) : Bool :=
  match x with
  | .str _ => match tab P xt with | some ⟨.str, _, _, _⟩ => size == 1 | _ => false
  | _ => match tab P xt with | some ⟨.slice _, _, _, _⟩ => true | _ => false

theorem srcB_ok {P : Program} {size : Nat} {xt : TypeId} {x : AVal} (h : srcB P size xt x = true) : srcK P size xt x := by
  have hs : (match tab P xt with | some ⟨.slice _, _, _, _⟩ => true | _ => false) = true → ∃ e, P.underlying xt = some (.slice e) := fun h => by
    split at h
    · rename_i ht; exact ⟨_, und_slice ht⟩
    · cases h
  cases x <;> simp only [srcB] at h <;> first | exact .inr ⟨fun _ h => (by cases h), hs h⟩ | skip
  rename_i s
  split at h
  · rename_i ht
    exact .inl ⟨s, rfl, by simpa using h, und_str ht⟩
  · cases h

def aappend (P : Program) (h : Heap) (fresh : Nat) (st xt : TypeId) (s x : AVal) : Option (AVal × Heap) :=
  match tab P st with
  | some ⟨.slice e, _, _, _⟩ =>
    match tab P e, rowsOf h x with
    | some te, some new =>
      if te.bytes ≤ 16384 ∧ srcB P te.size xt x = true ∧ (∀ r, r ∈ new → r.length = te.size) then
        match s with
        | .sl [] (some 0) => if new.length ≤ 4294967296 then some (.ref fresh new.length 0 new.length false new.length, (fresh, .arr te.size new) :: h) else none
        | .sl rows (some c) =>
          if c < rows.length + new.length ∧ rows.length + new.length ≤ 4294967296 ∧ (∀ r, r ∈ rows → r.length = te.size) then
            some (.ref fresh (rows.length + new.length) 0 (rows.length + new.length) false (rows.length + new.length), (fresh, .arr te.size (rows ++ new)) :: h)
          else none
        | .ref id sz base len ex c =>
          match lk h id with
          | some (.arr esz rows) =>
            if rows.length = sz ∧ esz = te.size ∧ (len + new.length ≤ 4294967296 ∨ (len + new.length ≤ 2199023255552 ∧ te.bytes ≤ 16)) then
              if base = 0 ∧ len = sz then some (.ref id (len + new.length) 0 (len + new.length) false (len + new.length), hset h id (.arr esz (rows ++ new)))
              else if len + new.length ≤ max len c ∧ base + len + new.length ≤ sz then
                some (.ref id sz base (len + new.length) ex c, hset h id (.arr esz (rows.take (base + len) ++ new ++ rows.drop (base + len + new.length))))
              else if ex = true ∧ c < len + new.length then
                some (.ref fresh (len + new.length) 0 (len + new.length) false (len + new.length), (fresh, .arr esz ((rows.drop base).take len ++ new)) :: h)
              else none
            else none
          | _ => none
        | _ => none
      else none
    | _, _ => none
  | _ => none

theorem RowVals.append {c : Cx} {size : Nat} {r1 r2 : List (List AVal)} {v1 v2 : List Value} (h1 : RowVals c size r1 v1) (h2 : RowVals c size r2 v2) (hr : ∀ r, r ∈ r1 → r.length = size) :
    ∀ (i : Nat) r (j : Nat) y, (r1 ++ r2)[i]? = some r → r[j]? = some y → (∀ r, r ∈ r2 → r.length = size) → ∃ u, (v1 ++ v2)[i * size + j]? = some u ∧ u.oneCell' = true ∧ VRel c y u := by
  intro i r j y hi hj hr2
  by_cases hlt : i < r1.length
  · rw [List.getElem?_append_left hlt] at hi
    have hjl : j < size := by rw [← hr r (List.mem_of_getElem? hi)]; exact (List.getElem?_eq_some_iff.1 hj).1
    have : (i + 1) * size ≤ r1.length * size := Nat.mul_le_mul_right _ hlt
    rw [Nat.add_mul, Nat.one_mul] at this
    have hl : i * size + j < v1.length := by rw [h1.len]; omega
    rw [List.getElem?_append_left hl]
    exact ⟨v1[i * size + j], List.getElem?_eq_getElem hl, h1.one _ (List.getElem_mem hl), h1.rel i r j y _ hi hj (List.getElem?_eq_getElem hl)⟩
  · rw [List.getElem?_append_right (by omega)] at hi
    have hjl : j < size := by rw [← hr2 r (List.mem_of_getElem? hi)]; exact (List.getElem?_eq_some_iff.1 hj).1
    have hin : i - r1.length < r2.length := (List.getElem?_eq_some_iff.1 hi).1
    have e1 : r1.length * size + (i - r1.length) * size = i * size := by rw [← Nat.add_mul]; congr 1; omega
    have e2 : (i - r1.length + 1) * size ≤ r2.length * size := Nat.mul_le_mul_right _ hin
    rw [Nat.add_mul, Nat.one_mul] at e2
    rw [List.getElem?_append_right (by rw [h1.len]; omega)]
    have e3 : i * size + j - v1.length = (i - r1.length) * size + j := by rw [h1.len]; omega
    rw [e3]
    have hl : (i - r1.length) * size + j < v2.length := by rw [h2.len]; omega
    exact ⟨v2[(i - r1.length) * size + j], List.getElem?_eq_getElem hl, h2.one _ (List.getElem_mem hl), h2.rel _ r j y _ hi hj (List.getElem?_eq_getElem hl)⟩

section
variable {P : Program} {ext : Nat → Prop} {β : Nat → Option Nat} {p : Nat → Prop} {h : Heap} {w : World} {fresh : Nat}

theorem out_aappend (hin : HIn ext β p h w) (hpf : ¬ p fresh) {st xt ty : TypeId} {s x y : AVal} {vs vx : Value} {h' : Heap} (hs : VRel (cx ext β h w) s vs) (hx : VRel (cx ext β h w) x vx) (hns : Nm p s) (hnx : Nm p x)
    (hy : aappend P h fresh st xt s x = some (y, h')) : Out P ext β p h w fresh (do pure (.value (← Builtin.append_ #[st, xt] ty #[vs, vx]))) y h' := by
  unfold aappend at hy
  split at hy
  case h_2 => cases hy
  rename_i e _ _ _ ht
  split at hy
  case h_2 => cases hy
  rename_i te new he hnew
  split at hy
  case isFalse => cases hy
  rename_i hc
  obtain ⟨hbytes, hsrc, hrow⟩ := hc
  have hu := und_slice ht
  obtain ⟨⟨news, hsx, hrv⟩, hnn⟩ := src_ok hin (srcB_ok hsrc) hx hnx hnew hrow
  have hrv0 := hrv
  have lift : ∀ {v : Value} {w' : World}, (Builtin.append_ #[st, xt] ty #[vs, vx]).run P w = .ok v w' → (do pure (.value (← Builtin.append_ #[st, xt] ty #[vs, vx])) : Sem Next).run P w = .ok (.value v) w' := fun h => by
    simp [h]
  split at hy
  case h_4 => cases hy
  case h_1 =>
    -- nothing, and no room
    split at hy
    case isFalse => cases hy
    rename_i hlen
    injection hy with hy
    injection hy with e1 e2
    subst e1 e2
    cases hs with | sl _ _ a cap esz blk off vals hcap hlim hrow' ha hcell hrel =>
    have hc0 : cap = 0 := hlim 0 rfl
    subst hc0
    rcases Nat.eq_zero_or_pos new.length with hn0 | hn0
    · have hnil : new = [] := List.length_eq_zero_iff.1 hn0
      subst hnil
      have hrun := run_nothing (P := P) (w := w) (ty := ty) hu he (base := a) (sLen := 0) (sCap := 0) (Nat.le_refl _) hsx
      obtain ⟨k1, k2, k3⟩ := HIn.unborn hin hpf te.size
      refine ⟨_, _, w, _, lift hrun, .inl rfl, k1, .ref _ _ _ _ _ _ _ _ (Nat.le_refl _) (Nat.le_refl _) (fun _ => rfl) fun esz' rows' hl' => ?_, .ref _ _ _ _ _ _ (.inr rfl), k2, k3⟩
      have hl1 : lk ((fresh, .arr te.size []) :: h) fresh = some (.arr esz' rows') := hl'
      simp only [lk, if_true] at hl1
      injection hl1 with hl1
      injection hl1 with q1 q2
      subst q1 q2
      exact ⟨Nat.le_refl _, fun _ => ⟨Nat.le_refl _, .inl rfl⟩⟩
    · have hold : (Builtin.firstCells te.size 0 (.slice a 0 0)).run P w.drew = .ok ([] : List Value).toArray w.drew := by
        cases a <;> simp [Builtin.firstCells, loadCells, loadCellsFrom]
      obtain ⟨cap, cs, w', h1, h2, h3, h4, h5⟩ := run_grow (P := P) (w := w) (ty := ty) hu he hold (by simp) hsx (by omega) (.inl ⟨by omega, hbytes⟩)
      simp only [Nat.zero_add, List.nil_append, List.length_nil] at h1 h3 h5
      exact out_new_slice hin hpf (lift h1) h2 hrow h4 (Nat.le_trans (Nat.mul_le_mul_right _ h3) h4) (fun i r j z hi hj => by
        have hjl : j < te.size := by rw [← hrow r (List.mem_of_getElem? hi)]; exact (List.getElem?_eq_some_iff.1 hj).1
        have hil := (List.getElem?_eq_some_iff.1 hi).1
        have e2 : (i + 1) * te.size ≤ new.length * te.size := Nat.mul_le_mul_right _ hil
        rw [Nat.add_mul, Nat.one_mul] at e2
        have hl : i * te.size + j < news.length := by rw [hrv.len]; omega
        exact ⟨news[i * te.size + j], by rw [h5 _ hl]; exact List.getElem?_eq_getElem hl, hrv.one _ (List.getElem_mem hl), hrv.rel i r j z _ hi hj (List.getElem?_eq_getElem hl)⟩) hnn (Nat.le_refl _) h3 h3 (fun h => by cases h)
  case h_2 =>
    rename_i rows c _
    split at hy
    case isFalse => cases hy
    rename_i hc
    obtain ⟨hc1, hc2, hc3⟩ := hc
    injection hy with hy
    injection hy with e1 e2
    subst e1 e2
    cases hs with | sl _ _ a cap esz blk off vals hcap hlim hrow' ha hcell hrel =>
    have hcc : cap = c := hlim c rfl
    subst hcc
    cases hns with | sl _ _ hns =>
    obtain ⟨olds, hso, hrvo⟩ := src_cells (P := P) (c := cx ext β h w) (cap := cap) hu hc3 ha (fun i r j x h1 h2 => by
      have he : esz = te.size := by rw [← hc3 r (List.mem_of_getElem? h1)]; exact (hrow' r (List.mem_of_getElem? h1)).symm
      subst he
      exact ⟨vals i j, (hcell i r j x h1 h2).2.1, (hcell i r j x h1 h2).2.2, hrel i r j x h1 h2⟩)
    obtain ⟨cap', cs, w', h1, h2, h3, h4, h5⟩ := run_grow (P := P) (w := w) (ty := ty) hu he (firstCells_run hso _ rfl cap) hrvo.len hsx (by omega) (.inl ⟨by omega, hbytes⟩)
    have hrl : (rows ++ new).length = rows.length + new.length := by simp
    have := out_new_slice (rows := rows ++ new) (ex := false) (c0 := rows.length + new.length) hin hpf (lift h1) h2 (fun r hr => (List.mem_append.1 hr).elim (fun hr => hc3 r hr) (fun hr => hrow r hr)) h4 (by rw [hrl]; exact Nat.le_trans (Nat.mul_le_mul_right _ h3) h4)
      (fun i r j z hi hj => by
        obtain ⟨u, h6, h7⟩ := hrvo.append hrv hc3 i r j z hi hj hrow
        have hl : i * te.size + j < olds.length + news.length := by have := (List.getElem?_eq_some_iff.1 h6).1; simpa using this
        exact ⟨u, (h5 _ hl).trans h6, h7⟩)
      (fun r hr => (List.mem_append.1 hr).elim (fun hr => hns r hr) (fun hr => hnn r hr)) (by rw [hrl]; exact Nat.le_refl _) h3 h3 (fun h => by cases h)
    rwa [hrl] at this
  case h_3 =>
    rename_i id sz base len ex c
    split at hy
    case h_2 => cases hy
    rename_i esz rows hl
    split at hy
    case isFalse => cases hy
    rename_i hcond
    obtain ⟨hsz, hesz, hlim⟩ := hcond
    subst hesz
    cases hs with | ref _ _ _ _ _ _ a cap hcap hlo hex hok =>
    cases hns with | ref _ _ _ _ _ _ hid =>
    obtain ⟨_, hok2⟩ := hok te.size rows hl
    obtain ⟨hbl, hat⟩ := hok2 hsz.symm
    obtain ⟨hrows, hblk⟩ := hin.ob id _ hl
    have hnmr := (hin.nm id _ hl).2
    -- the same rows, in a new block
    have grown : cap < len + new.length → ∃ cap' cs w', (Builtin.append_ #[st, xt] ty #[.slice a len cap, vx]).run P w = .ok (.slice (some ⟨w.heap.size, 0, none⟩) (len + new.length) cap') w' ∧ (w'.heap = w.heap.push (.cells cs e) ∧ w'.os = w.os ∧ w'.tape = w.tape ∧ w'.output = w.output) ∧
        len + new.length ≤ cap' ∧ cap' * te.size ≤ cs.size ∧ ∀ (i : Nat) r (j : Nat) z, ((rows.drop base).take len ++ new)[i]? = some r → r[j]? = some z → ∃ u, cs[i * te.size + j]? = some u ∧ u.oneCell' = true ∧ VRel (cx ext β h w) z u := by
      intro hg
      obtain ⟨blk, h5, h6⟩ := ref_cells hin hl (by omega) hcap hat
      have hlen : ((rows.drop base).take len).length = len := by simp; omega
      have hr1 : ∀ r, r ∈ (rows.drop base).take len → r.length = te.size := fun r hr => hrows r (List.mem_of_mem_drop (List.mem_of_mem_take hr))
      obtain ⟨olds, hso, hrvo⟩ := src_cells (P := P) (c := cx ext β h w) (cap := cap) hu hr1 h5 h6
      rw [hlen] at hso
      obtain ⟨cap', cs, w', q1, q2, q3, q4, q5⟩ := run_grow (P := P) (w := w) (ty := ty) hu he (firstCells_run hso _ rfl cap) (by rw [hrvo.len, hlen]) hsx hg (hlim.imp (fun k => ⟨k, hbytes⟩) fun k => k)
      refine ⟨cap', cs, w', q1, q2, q3, q4, fun i r j z hi hj => ?_⟩
      obtain ⟨u, h7, h8⟩ := hrvo.append hrv hr1 i r j z hi hj hrow
      have hl' : i * te.size + j < olds.length + news.length := by have := (List.getElem?_eq_some_iff.1 h7).1; simpa using this
      exact ⟨u, (q5 _ hl').trans h7, h8⟩
    -- the same block
    have room : len + new.length ≤ cap → cap ≠ 0 → ∃ b e' m, β id = some b ∧ a = some ⟨b, base * te.size, none⟩ ∧ w.shape? b = some (e', m) ∧ (base + cap) * te.size ≤ m := by
      intro _ hc0
      rcases hat with h0 | ⟨b, hb, ha, e', m, h1, h2⟩
      · exact absurd h0 hc0
      · exact ⟨b, e', m, hb, ha, h1, h2⟩
    split at hy
    · rename_i hwhole
      obtain ⟨rfl, hlsz⟩ := hwhole
      injection hy with hy
      injection hy with e1 e2
      subst e1 e2
      have hlr : len = rows.length := by omega
      by_cases hn0 : new.length = 0
      · have hnil : new = [] := List.length_eq_zero_iff.1 hn0
        subst hnil
        have hrun := run_nothing (P := P) (w := w) (ty := ty) hu he (base := a) (sLen := len) (sCap := cap) hcap hsx
        have hsame : ∀ j, lk (hset h id (.arr te.size (rows ++ []))) j = lk h j := fun j => by
          rw [lk_hset _ hl]
          by_cases e : j = id
          · subst e; rw [if_pos rfl, List.append_nil]; exact hl.symm
          · rw [if_neg e]
        obtain ⟨k1, k2, k3⟩ := hin.congr hsame
        refine ⟨_, _, w, β, lift hrun, .inl rfl, k1.mono fun _ => .inl, .ref _ _ _ _ _ _ _ _ (by simpa using hcap) (by simpa using hcap) (fun h => by cases h) fun esz' rows' hl' => ?_, .ref _ _ _ _ _ _ (.inl hid), k2, k3 p⟩
        have hl1 : lk (hset h id (.arr te.size (rows ++ []))) id = some (.arr esz' rows') := hl'
        rw [hsame, hl] at hl1
        injection hl1 with hl1
        injection hl1 with q1 q2
        subst q1 q2
        refine ⟨by simp; omega, fun _ => ⟨by simp, ?_⟩⟩
        exact Cx.RefAt.step (k3 p) rfl hat
      · by_cases hroom : len + new.length ≤ cap
        · obtain ⟨b, e', m, hb, ha, hsh, hm⟩ := room hroom (by omega)
          subst ha
          have := out_room (fresh := fresh) (ex' := false) (c1 := len + new.length) (P := P) (s := (do pure (.value (← Builtin.append_ #[st, xt] ty #[.slice (some ⟨b, 0 * te.size, none⟩) len cap, vx])))) hin hl hb hsh hm (by omega) hroom rfl hrow hrv hnn hid hroom (fun h => by cases h)
            (fun cur h1 h2 => lift (run_room hu he hsx hroom h1 h2))
          have e1 : max rows.length (0 + len + new.length) = len + new.length := by omega
          have e2 : rows.take (0 + len) ++ new ++ rows.drop (0 + len + new.length) = rows ++ new := by
            rw [Nat.zero_add, List.take_of_length_le (by omega), List.drop_eq_nil_of_le (by omega), List.append_nil]
          rw [e1, e2] at this
          exact this
        · obtain ⟨cap', cs, w', h1, h2, h3, h4, h5⟩ := grown (by omega)
          have e2 : (rows.drop 0).take len = rows := by rw [List.drop_zero, List.take_of_length_le (by omega)]
          rw [e2] at h5
          have hget : w'.heap[w.heap.size]? = some (.cells cs e (0, 0)) := by rw [h2.1]; simp
          have key := HIn.move (w' := w') (rows' := rows ++ new) hin hl h2 (by simp; omega) (fun r hr => (List.mem_append.1 hr).elim (fun hr => hnmr r hr) (fun hr => hnn r hr)) (fun st => by
            refine ⟨fun r hr => (List.mem_append.1 hr).elim (fun hr => hrows r hr) (fun hr => hrow r hr), ?_⟩
            have : (cx ext (newβ β id w.heap.size) (hset h id (.arr te.size (rows ++ new))) w').β id = some w.heap.size := by simp [cx, newβ]
            rw [this]
            refine ⟨cs, e, hget, ?_, fun i r j z hi hj => ?_⟩
            · refine Nat.le_trans (Nat.mul_le_mul_right _ ?_) h4
              simp; omega
            · obtain ⟨u, h6, h7, h8⟩ := h5 i r j z hi hj
              refine ⟨u, h6, h7, h8.step (st p) ?_⟩
              rcases List.mem_append.1 (List.mem_of_getElem? hi) with hr | hr
              · exact hnmr r hr z (List.mem_of_getElem? hj)
              · exact hnn r hr z (List.mem_of_getElem? hj))
          obtain ⟨k1, k2, k3⟩ := key
          refine ⟨_, _, w', _, lift h1, .inl rfl, k1.mono fun _ => .inl, .ref _ _ _ _ _ _ _ _ h3 h3 (fun h => by cases h) fun esz' rows' hl' => ?_, .ref _ _ _ _ _ _ (.inl hid), k2, k3 p⟩
          have hl1 : lk (hset h id (.arr te.size (rows ++ new))) id = some (.arr esz' rows') := hl'
          rw [lk_hset _ hl, if_pos rfl] at hl1
          injection hl1 with hl1
          injection hl1 with q1 q2
          subst q1 q2
          refine ⟨by simp; omega, fun _ => ⟨by simp, .inr ⟨w.heap.size, by simp [cx, newβ], by simp, e, cs.size, by simp [cx, World.shape?, hget], by simpa using h4⟩⟩⟩
    · rename_i hnw
      split at hy
      · rename_i hc2
        obtain ⟨hc2, hc3⟩ := hc2
        injection hy with hy
        injection hy with e1 e2
        subst e1 e2
        have hroom : len + new.length ≤ cap := by omega
        by_cases hn0 : new.length = 0
        · have hnil : new = [] := List.length_eq_zero_iff.1 hn0
          subst hnil
          have hrun := run_nothing (P := P) (w := w) (ty := ty) hu he (base := a) (sLen := len) (sCap := cap) hcap hsx
          have hsame : ∀ j, lk (hset h id (.arr te.size (rows.take (base + len) ++ [] ++ rows.drop (base + len + ([] : List (List AVal)).length)))) j = lk h j := fun j => by
            rw [lk_hset _ hl]
            by_cases e : j = id
            · subst e; rw [if_pos rfl, List.append_nil, List.length_nil, Nat.add_zero, List.take_append_drop]; exact hl.symm
            · rw [if_neg e]
          obtain ⟨k1, k2, k3⟩ := hin.congr hsame
          refine ⟨_, _, w, β, lift hrun, .inl rfl, k1.mono fun _ => .inl, .ref _ _ _ _ _ _ _ _ (by simpa using hcap) hlo hex fun esz' rows' hl' => ?_, .ref _ _ _ _ _ _ (.inl hid), k2, k3 p⟩
          have hl1 : lk (hset h id (.arr te.size (rows.take (base + len) ++ [] ++ rows.drop (base + len + ([] : List (List AVal)).length)))) id = some (.arr esz' rows') := hl'
          rw [hsame, hl] at hl1
          injection hl1 with hl1
          injection hl1 with q1 q2
          subst q1 q2
          exact ⟨Nat.le_of_eq hsz.symm, fun _ => ⟨by simpa using hbl, Cx.RefAt.step (k3 p) rfl hat⟩⟩
        · obtain ⟨b, e', m, hb, ha, hsh, hm⟩ := room hroom (by omega)
          subst ha
          have := out_room (fresh := fresh) (ex' := ex) (c1 := c) (P := P) (s := (do pure (.value (← Builtin.append_ #[st, xt] ty #[.slice (some ⟨b, base * te.size, none⟩) len cap, vx])))) hin hl hb hsh hm (by omega) hroom rfl hrow hrv hnn hid hlo hex
            (fun cur h1 h2 => lift (run_room hu he hsx hroom h1 h2))
          have e1 : max rows.length (base + len + new.length) = sz := by omega
          rw [e1] at this
          exact this
      · split at hy
        case isFalse => cases hy
        rename_i hc2
        obtain ⟨hx1, hx2⟩ := hc2
        injection hy with hy
        injection hy with e1 e2
        subst e1 e2
        have hcc := hex hx1
        obtain ⟨cap', cs, w', h1, h2, h3, h4, h5⟩ := grown (by omega)
        have hrl : ((rows.drop base).take len ++ new).length = len + new.length := by simp; omega
        have := out_new_slice (rows := (rows.drop base).take len ++ new) (ex := false) (c0 := len + new.length) hin hpf (lift h1) h2 (fun r hr => (List.mem_append.1 hr).elim (fun hr => hrows r (List.mem_of_mem_drop (List.mem_of_mem_take hr))) (fun hr => hrow r hr)) h4
          (by rw [hrl]; exact Nat.le_trans (Nat.mul_le_mul_right _ h3) h4) h5
          (fun r hr => (List.mem_append.1 hr).elim (fun hr => hnmr r (List.mem_of_mem_drop (List.mem_of_mem_take hr))) (fun hr => hnn r hr)) (by rw [hrl]; exact Nat.le_refl _) h3 h3 (fun h => by cases h)
        rwa [hrl] at this

end
end Go.AM
end

section
set_option linter.unusedVariables false
namespace Go.AM
open Go Go.MapKept

/-- Is it a key of this kind? -/
def keyOk : TK → AVal → Bool
  | .int k, .int k' _ => decide (k' = k)
  | .str, .str _ => true
  | _, _ => false

def keq : AVal → AVal → Bool
  | .int _ a, .int _ b => decide (a = b)
  | .str a, .str b => decide (a = b)
  | _, _ => false

def alook (k : AVal) : List (AVal × AVal × Nat) → Option AVal
  | [] => none
  | e :: es => if keq k e.1 = true then some e.2.1 else alook k es

def aput (k v : AVal) (n : Nat) : List (AVal × AVal × Nat) → List (AVal × AVal × Nat)
  | [] => [(k, v, n)]
  | e :: es => if keq k e.1 = true then (k, v, e.2.2) :: es else e :: aput k v n es

/-- When an entry was born. -/
def aborn (k : AVal) : List (AVal × AVal × Nat) → Nat
  | [] => 0
  | e :: es => if keq k e.1 = true then e.2.2 else aborn k es

/-- The entry that was born then. -/
def astamp (b : Int) (v : AVal) : List (AVal × AVal × Nat) → Option (List (AVal × AVal × Nat))
  | [] => none
  | e :: es => if (e.2.2 : Int) == b then some ((e.1, v, e.2.2) :: es) else (astamp b v es).map (e :: ·)

def adel (k : AVal) : List (AVal × AVal × Nat) → List (AVal × AVal × Nat)
  | [] => []
  | e :: es => if keq k e.1 = true then es else e :: adel k es

def keysOk (kd : TK) (es : List (AVal × AVal × Nat)) : Bool := es.all fun e => keyOk kd e.1

def commaA (ok there : Bool) (v : AVal) : AVal := if ok then .tuple [v, .bool there] else v

def alookup (P : Program) (h : Heap) (t : TypeId) (x k : AVal) (ok : Bool) : Option AVal :=
  match tab P t with
  | some ⟨.map kt et, _, _, _⟩ =>
    match tab P kt, tab P et with
    | some ki, some ei =>
      if keyOk ki.kind k = true then
        match x with
        | .nilmap => some (commaA ok false ei.zero)
        | .mapv id =>
          match lk h id with
          | some (.mp a) => if keysOk ki.kind a.es = true then (match alook k a.es with | some v => some (commaA ok true v) | none => some (commaA ok false ei.zero)) else none
          | _ => none
        | _ => none
      else none
    | _, _ => none
  | _ => none

def amapUpdate (P : Program) (h : Heap) (t : TypeId) (x k v : AVal) : Option Heap :=
  match tab P t with
  | some ⟨.map kt et, _, _, _⟩ =>
    match tab P kt with
    | some ki =>
      if keyOk ki.kind k = true then
        match x with
        | .mapv id =>
          match lk h id with
          | some (.mp a) => if keysOk ki.kind a.es = true then some (hset h id (.mp ⟨aput k v a.clock a.es, if (alook k a.es).isSome then a.clock else a.clock + 1⟩)) else none
          | _ => none
        | _ => none
      else none
    | _ => none
  | _ => none

def adelete (P : Program) (h : Heap) (t : TypeId) (x k : AVal) : Option (AVal × Heap) :=
  match tab P t with
  | some ⟨.map kt et, _, _, _⟩ =>
    match tab P kt with
    | some ki =>
      if keyOk ki.kind k = true then
        match x with
        | .mapv id =>
          match lk h id with
          | some (.mp a) => if keysOk ki.kind a.es = true then some (.tuple [], hset h id (.mp ⟨adel k a.es, a.clock⟩)) else none
          | _ => none
        | _ => none
      else none
    | _ => none
  | _ => none

def amapEntry (P : Program) (h : Heap) (t : TypeId) (x k : AVal) : Option (AVal × Heap) :=
  match tab P t with
  | some ⟨.map kt et, _, _, _⟩ =>
    match tab P kt, tab P et with
    | some ki, some ei =>
      if keyOk ki.kind k = true then
        match x with
        | .mapv id =>
          match lk h id with
          | some (.mp a) =>
            if keysOk ki.kind a.es = true then
              match alook k a.es with
              | some v => some (.tuple [v, .int .i64 (aborn k a.es)], hset h id (.mp ⟨aput k v a.clock a.es, a.clock⟩))
              | none => some (.tuple [ei.zero, .int .i64 a.clock], hset h id (.mp ⟨aput k ei.zero a.clock a.es, a.clock + 1⟩))
            else none
          | _ => none
        | _ => none
      else none
    | _, _ => none
  | _ => none

def aentryStore (h : Heap) (x s v : AVal) : Option Heap :=
  match x, s with
  | .mapv id, .int .i64 b =>
    match lk h id with
    | some (.mp a) => (astamp b v a.es).map fun es => hset h id (.mp ⟨es, a.clock⟩)
    | _ => none
  | _, _ => none

section
variable {P : Program} {ext : Nat → Prop} {β : Nat → Option Nat} {p : Nat → Prop} {h : Heap} {w : World} {fresh : Nat}

theorem keyOk_is {t : TypeId} {ti : TI} (ht : tab P t = some ti) {k : AVal} (hk : keyOk ti.kind k = true) : ∃ d, P.underlying t = some d ∧ ∀ (c : Cx) v, VRel c k v → IsKey d v := by
  obtain ⟨kd, n, m, z⟩ := ti
  cases kd <;> cases k <;> simp [keyOk] at hk
  · subst hk
    refine ⟨_, und_int ht, fun c v hv => ?_⟩
    cases hv
    exact rfl
  · refine ⟨_, und_str ht, fun c v hv => ?_⟩
    cases hv
    trivial

theorem keq_is {kd : TK} {k e : AVal} (hk : keyOk kd k = true) (he : keyOk kd e = true) {c : Cx} {u v : Value} (hu : VRel c k u) (hv : VRel c e v) : keq k e = true ↔ v = u := by
  cases kd <;> cases k <;> cases e <;> simp [keyOk] at hk he
  · subst hk
    subst he
    cases hu
    cases hv
    simp only [keq, decide_eq_true_eq, Value.int.injEq, true_and]
    exact ⟨fun h => h.symm, fun h => h.symm⟩
  · cases hu
    cases hv
    simp only [keq, decide_eq_true_eq, Value.string.injEq]
    exact ⟨fun h => h.symm, fun h => h.symm⟩

/-- Entries, and what stands for them. -/
def EntL (c : Cx) (es : List (AVal × AVal × Nat)) (ms : List MapEntry) : Prop := ms.length = es.length ∧ ∀ (i : Nat) k v n m, es[i]? = some (k, v, n) → ms[i]? = some m → VRel c k m.key ∧ VRel c v m.val ∧ m.born = n

theorem EntL.tail {c : Cx} {e : AVal × AVal × Nat} {es : List (AVal × AVal × Nat)} {m : MapEntry} {ms : List MapEntry} (h : EntL c (e :: es) (m :: ms)) : VRel c e.1 m.key ∧ VRel c e.2.1 m.val ∧ m.born = e.2.2 ∧ EntL c es ms :=
  ⟨(h.2 0 e.1 e.2.1 e.2.2 m rfl rfl).1, (h.2 0 e.1 e.2.1 e.2.2 m rfl rfl).2.1, (h.2 0 e.1 e.2.1 e.2.2 m rfl rfl).2.2, by simpa using h.1, fun i k v n x h1 h2 => h.2 (i + 1) k v n x (by simpa using h1) (by simpa using h2)⟩

/-- What is found. -/
theorem findNow_ent {kt : TypeId} {ki : TI} (ht : tab P kt = some ki) {c : Cx} {k : AVal} {u : Value} (hk : keyOk ki.kind k = true) (hu : VRel c k u) {d : TypeDesc} (hd : P.underlying kt = some d) : ∀ {es : List (AVal × AVal × Nat)} {ms : List MapEntry} (i : Nat), EntL c es ms → keysOk ki.kind es = true →
    (Instr.findNow d u ms i = some none ∧ alook k es = none ∧ (∀ v n, aput k v n es = es ++ [(k, v, n)]) ∧ adel k es = es) ∨
    ∃ j x m, Instr.findNow d u ms i = some (some (i + j, m.val)) ∧ ms[j]? = some m ∧ m.key = u ∧ alook k es = some x ∧ VRel c x m.val ∧ (∃ k', es[j]? = some (k', x, m.born)) ∧ (∀ v n, aput k v n es = es.set j (k, v, m.born)) ∧ adel k es = es.eraseIdx j ∧ aborn k es = m.born
  | [], [], i, _, _ => .inl ⟨rfl, rfl, fun _ _ => rfl, rfl⟩
  | [], m :: ms, i, h, _ => by simpa using h.1
  | e :: es, [], i, h, _ => by simpa using h.1
  | e :: es, m :: ms, i, h, hks => by
    obtain ⟨r1, r2, rb, r3⟩ := h.tail
    simp only [keysOk, List.all_cons, Bool.and_eq_true] at hks
    obtain ⟨d', hd', hkey⟩ := keyOk_is ht hk
    rw [hd] at hd'
    injection hd' with hd'
    subst hd'
    obtain ⟨d2, hd2, hkey2⟩ := keyOk_is ht hks.1
    rw [hd] at hd2
    injection hd2 with hd2
    subst hd2
    obtain ⟨r, hr, hiff⟩ := sameNow_of_keys (hkey c u hu) (hkey2 c m.key r1)
    have hq := keq_is hk hks.1 hu r1
    by_cases he : keq k e.1 = true
    · have hm := hq.1 he
      have hrt : r = true := hiff.2 hm.symm
      subst hrt
      exact .inr ⟨0, e.2.1, m, by simp [Instr.findNow, hr], rfl, hm, by simp [alook, he], r2, ⟨e.1, by rw [rb]; rfl⟩, fun v n => by simp [aput, he, rb], by simp [adel, he], by simp [aborn, he, rb]⟩
    · have hrf : r = false := by
        cases r with
        | false => rfl
        | true => exact absurd (hq.2 (hiff.1 rfl).symm) he
      subst hrf
      rcases findNow_ent ht hk hu hd (i + 1) r3 hks.2 with ⟨h1, h2, h3, h4⟩ | ⟨j, x, m', h1, h2, h3, h4, h5, ⟨k', h6⟩, h7, h8, h9⟩
      · exact .inl ⟨by simp [Instr.findNow, hr, h1], by simp [alook, he, h2], fun v n => by simp [aput, he, h3], by simp [adel, he, h4]⟩
      · refine .inr ⟨j + 1, x, m', by simp [Instr.findNow, hr, h1]; omega, by simpa using h2, h3, by simp [alook, he, h4], h5, ⟨k', by simpa using h6⟩, fun v n => by simp [aput, he, h7], by simp [adel, he, h8], by simp [aborn, he, h9]⟩

theorem ent_of (hin : HIn ext β p h w) {id : Nat} {a : MapA} (hl : lk h id = some (.mp a)) : ∃ b ms, β id = some b ∧ w.heap[b]? = some (.map ms a.clock) ∧ EntL (cx ext β h w) a.es ms.toList := by
  obtain ⟨b, ms, h1, h2, h3, h4⟩ := hin.ob id _ hl
  exact ⟨b, ms, h1, h2, by simpa using h3, fun i k v n m h5 h6 => h4 i k v n m h5 (by simpa using h6)⟩

theorem out_lookup (hin : HIn ext β p h w) {t : TypeId} {x k y : AVal} {a u : Value} {ok : Bool} (hx : VRel (cx ext β h w) x a) (hk : VRel (cx ext β h w) k u) (hnx : Nm p x) (hy : alookup P h t x k ok = some y) :
    ∃ v, (Instr.lookup t a u ok).run P w = .ok v w ∧ VRel (cx ext β h w) y v ∧ Nm p y := by
  unfold alookup at hy
  split at hy
  case h_2 => cases hy
  rename_i kt et _ _ _ ht
  split at hy
  case h_2 => cases hy
  rename_i ki ei hki hei
  split at hy
  case isFalse => cases hy
  rename_i hko
  obtain ⟨d, hd, hkey⟩ := keyOk_is hki hko
  obtain ⟨z, hz, hz1, _⟩ := run_zero (P := P) w hei
  have zrel : VRel (cx ext β h w) ei.zero z := by rw [← hz1]; exact VRel_ofV _ z
  have znm : Nm p ei.zero := by rw [← hz1]; exact Fz.nm (Fz_ofV z) p
  have comma : ∀ (b : Bool) (q : AVal) (v : Value), VRel (cx ext β h w) q v → Nm p q → VRel (cx ext β h w) (commaA ok b q) (if ok then .tuple #[v, .bool b] else v) ∧ Nm p (commaA ok b q) := fun b q v h1 h2 => by
    unfold commaA
    cases ok with
    | false => exact ⟨h1, h2⟩
    | true =>
      refine ⟨.tuple _ _ rfl fun i q' v' e1 e2 => ?_, .tuple _ fun q' e => ?_⟩
      · match i, e1, e2 with
        | 0, e1, e2 => simp at e1 e2; subst e1; subst e2; exact h1
        | 1, e1, e2 => simp at e1 e2; subst e1; subst e2; exact .bool b
        | i + 2, e1, e2 => simp at e1
      · simp only [List.mem_cons, List.not_mem_nil, or_false] at e
        rcases e with rfl | rfl
        · exact h2
        · exact .bool b
  split at hy
  · injection hy with hy
    subst hy
    cases hx
    have hc := run_checkKey (P := P) (w := w) hd (hkey _ _ hk) true 9999
    obtain ⟨h1, h2⟩ := comma false _ _ zrel znm
    refine ⟨_, ?_, h1, h2⟩
    have hf : (Instr.findKey kt u []).run P w = .ok none w := run_findKey hd rfl
    simp [Instr.lookup, run_underlying (und_map ht), hc, hf, hz, Result.andThen]
  · rename_i id
    split at hy
    case h_2 => cases hy
    rename_i M hl
    split at hy
    case isFalse => cases hy
    rename_i hks
    obtain ⟨b, ms, hb, hw, hent⟩ := ent_of hin hl
    have ha : a = .map (some b) := by
      cases hx with | mapv _ r hok =>
      have := hok M hl
      rw [show (cx ext β h w).β id = some b from hb] at this
      injection this with this
      rw [this]
    subst ha
    have hc := run_checkKey (P := P) (w := w) hd (hkey _ _ hk) ms.isEmpty 9999
    rcases findNow_ent hki hko hk hd 0 hent hks with ⟨h1, h2, h3, h4⟩ | ⟨j, x, m, h1, h2, h3, h4, h5, ⟨k', h6⟩, h7, h8, h9⟩
    · rw [h2] at hy
      injection hy with hy
      subst hy
      obtain ⟨e1, e2⟩ := comma false _ _ zrel znm
      refine ⟨_, ?_, e1, e2⟩
      simp [Instr.lookup, run_underlying (und_map ht), Go.MapKept.run_getObj_map hw, hc, run_findKey hd h1, hz, Result.andThen]
    · rw [h4] at hy
      injection hy with hy
      subst hy
      obtain ⟨e1, e2⟩ := comma true _ _ h5 ((hin.nm id _ hl).2 _ (List.mem_of_getElem? h6)).2
      refine ⟨_, ?_, e1, e2⟩
      simp [Instr.lookup, run_underlying (und_map ht), Go.MapKept.run_getObj_map hw, hc, run_findKey hd h1, Result.andThen]
  · cases hy

/-- A map is written over. -/
theorem map_upd (hin : HIn ext β p h w) {id b : Nat} {M M' : MapA} {ms ms' : Array MapEntry} {clock : Nat} (hl : lk h id = some (.mp M)) (hb : β id = some b) (hw : w.heap[b]? = some (.map ms clock)) (hnm : (Ob.mp M').nm p)
    (he : EntL (cx ext β h w) M'.es ms'.toList) :
    HIn ext β p (hset h id (.mp M')) { w with heap := w.heap.setIfInBounds b (.map ms' M'.clock) } ∧ Evo (owns β h) w (owns β (hset h id (.mp M'))) { w with heap := w.heap.setIfInBounds b (.map ms' M'.clock) } ∧
      ∀ q, Step q (cx ext β h w) (cx ext β (hset h id (.mp M')) { w with heap := w.heap.setIfInBounds b (.map ms' M'.clock) }) := by
  obtain ⟨s1, s2⟩ := heap_set (o' := .map ms' M'.clock) hw
  refine HIn.upd hin hl hb s2 ⟨by simp, rfl, rfl, rfl⟩ (fun k x hk => ?_) trivial hnm fun st => ?_
  · by_cases e : k = b
    · subst e
      simp [World.shape?, hw] at hk
    · simp only [World.shape?] at hk ⊢
      rw [s2 k e]
      exact hk
  · exact ⟨b, ms', hb, s1, by simpa using he.1, fun i k v n m h1 h2 => by
      have h3 := he.2 i k v n m h1 (by simpa using h2)
      have h4 := hnm (k, v, n) (List.mem_of_getElem? h1)
      exact ⟨h3.1.step (st p) h4.1, h3.2.1.step (st p) h4.2, h3.2.2⟩⟩

/-- An entry is added. -/
theorem ent_push {c : Cx} {es : List (AVal × AVal × Nat)} {ms : Array MapEntry} {k z : AVal} {u v : Value} {n : Nat} (hent : EntL c es ms.toList) (hk : VRel c k u) (hv : VRel c z v) : EntL c (es ++ [(k, z, n)]) (ms.push { key := u, val := v, born := n }).toList := by
  rw [Array.toList_push]
  refine ⟨by simp [hent.1], fun i k2 v2 n2 m2 e1 e2 => ?_⟩
  rcases Nat.lt_or_ge i es.length with hi | hi
  · rw [List.getElem?_append_left hi] at e1
    rw [List.getElem?_append_left (by rw [hent.1]; exact hi)] at e2
    exact hent.2 i k2 v2 n2 m2 e1 e2
  · rw [List.getElem?_append_right hi] at e1
    rw [List.getElem?_append_right (by rw [hent.1]; exact hi), hent.1] at e2
    cases hz : i - es.length with
    | zero =>
      rw [hz] at e1 e2
      simp at e1 e2
      obtain ⟨rfl, rfl, rfl⟩ := e1
      subst e2
      exact ⟨hk, hv, rfl⟩
    | succ n => rw [hz] at e1; simp at e1

/-- An entry is changed. -/
theorem ent_modify {c : Cx} {es : List (AVal × AVal × Nat)} {ms : Array MapEntry} {f : MapEntry → MapEntry} {j n : Nat} {m : MapEntry} {k z : AVal} (hent : EntL c es ms.toList) (hj : ms.toList[j]? = some m) (hk : VRel c k (f m).key) (hv : VRel c z (f m).val) (hn : (f m).born = n) :
    EntL c (es.set j (k, z, n)) (ms.modify j f).toList := by
  rw [Array.toList_modify]
  refine ⟨by simp [hent.1], fun i k2 v2 n2 m2 e1 e2 => ?_⟩
  rw [List.getElem?_modify] at e2
  rw [List.getElem?_set] at e1
  by_cases hi : j = i
  · subst hi
    rw [if_pos rfl] at e1
    split at e1
    case isFalse => cases e1
    injection e1 with e1
    injection e1 with e3 e4
    injection e4 with e4 e5
    subst e3
    subst e4
    subst e5
    rw [hj] at e2
    simp at e2
    subst e2
    exact ⟨hk, hv, hn⟩
  · rw [if_neg hi] at e1
    simp [hi] at e2
    exact hent.2 i k2 v2 n2 m2 e1 (by simpa using e2)

theorem nm_push {es : List (AVal × AVal × Nat)} {k z : AVal} {n c : Nat} {q : Nat → Prop} (h0 : ∀ e, e ∈ es → Nm q e.1 ∧ Nm q e.2.1) (hk : Nm q k) (hz : Nm q z) : (Ob.mp ⟨es ++ [(k, z, n)], c⟩).nm q := by
  intro e he
  rcases List.mem_append.1 he with he | he
  · exact h0 e he
  · simp only [List.mem_cons, List.not_mem_nil, or_false] at he
    subst he
    exact ⟨hk, hz⟩

theorem nm_setE {es : List (AVal × AVal × Nat)} {k z : AVal} {j n c : Nat} {q : Nat → Prop} (h0 : ∀ e, e ∈ es → Nm q e.1 ∧ Nm q e.2.1) (hk : Nm q k) (hz : Nm q z) : (Ob.mp ⟨es.set j (k, z, n), c⟩).nm q := by
  intro e he
  rcases List.mem_or_eq_of_mem_set he with he | rfl
  · exact h0 e he
  · exact ⟨hk, hz⟩

theorem out_mapUpdate (hin : HIn ext β p h w) {t : TypeId} {x k z : AVal} {h' : Heap} {a u v : Value} (hx : VRel (cx ext β h w) x a) (hk : VRel (cx ext β h w) k u) (hv : VRel (cx ext β h w) z v) (hnk : Nm p k) (hnv : Nm p z) (hy : amapUpdate P h t x k z = some h') :
    Out P ext β p h w fresh (do Instr.mapUpdate t a u v; pure .skip) .junk h' := by
  unfold amapUpdate at hy
  split at hy
  case h_2 => cases hy
  rename_i kt et _ _ _ ht
  split at hy
  case h_2 => cases hy
  rename_i ki hki
  split at hy
  case isFalse => cases hy
  rename_i hko
  obtain ⟨d, hd, hkey⟩ := keyOk_is hki hko
  split at hy
  case h_2 => cases hy
  rename_i id
  split at hy
  case h_2 => cases hy
  rename_i M hl
  split at hy
  case isFalse => cases hy
  rename_i hks
  injection hy with hy
  subst hy
  obtain ⟨b, ms, hb, hw, hent⟩ := ent_of hin hl
  have ha : a = .map (some b) := by
    cases hx with | mapv _ r hok =>
    have := hok M hl
    rw [show (cx ext β h w).β id = some b from hb] at this
    injection this with this
    rw [this]
  subst ha
  have hc := run_checkKey (P := P) (w := w) hd (hkey _ _ hk) false 9999
  have hnm0 := (hin.nm id _ hl).2
  rcases findNow_ent hki hko hk hd 0 hent hks with ⟨h1, h2, h3, h4⟩ | ⟨j, y, m, h1, h2, h3, h4, h5, ⟨k', h6⟩, h7, h8, h9⟩
  · rw [h2, h3, Option.isSome_none, if_neg Bool.false_ne_true]
    obtain ⟨k1, k2, k3⟩ := map_upd (M' := ⟨M.es ++ [(k, z, M.clock)], M.clock + 1⟩) hin hl hb hw (nm_push hnm0 hnk hnv) (ent_push hent hk hv)
    refine ⟨.skip, undef, _, β, ?_, .inr ⟨rfl, rfl⟩, k1.mono fun _ => .inl, .junk _, .junk, k2, k3 _⟩
    simp [Instr.mapUpdate, run_underlying (und_map ht), Go.MapKept.run_getObj_map hw, hc, run_findKey hd h1, Go.MapKept.run_setObj_map _ hw, Result.andThen]
  · rw [h4, h7, Option.isSome_some, if_pos rfl]
    have hj : ms[j]? = some m := by simpa using h2
    obtain ⟨k1, k2, k3⟩ := map_upd (M' := ⟨M.es.set j (k, z, m.born), M.clock⟩) hin hl hb hw (nm_setE hnm0 hnk hnv) (ent_modify (f := fun e => { e with key := u, val := v }) hent h2 hk hv rfl)
    refine ⟨.skip, undef, _, β, ?_, .inr ⟨rfl, rfl⟩, k1.mono fun _ => .inl, .junk _, .junk, k2, k3 _⟩
    simp [Instr.mapUpdate, run_underlying (und_map ht), Go.MapKept.run_getObj_map hw, hc, run_findKey hd h1, hj, h3, run_keyThatStays (hkey _ _ hk), Go.MapKept.run_setObj_map _ hw, Result.andThen]

theorem out_delete (hin : HIn ext β p h w) {t kt0 ty : TypeId} {x k y : AVal} {h' : Heap} {a u : Value} (hx : VRel (cx ext β h w) x a) (hk : VRel (cx ext β h w) k u) (hy : adelete P h t x k = some (y, h')) :
    Out P ext β p h w fresh (do pure (.value (← Builtin.delete_ #[t, kt0] ty #[a, u]))) y h' := by
  unfold adelete at hy
  split at hy
  case h_2 => cases hy
  rename_i kt et _ _ _ ht
  split at hy
  case h_2 => cases hy
  rename_i ki hki
  split at hy
  case isFalse => cases hy
  rename_i hko
  obtain ⟨d, hd, hkey⟩ := keyOk_is hki hko
  split at hy
  case h_2 => cases hy
  rename_i id
  split at hy
  case h_2 => cases hy
  rename_i M hl
  split at hy
  case isFalse => cases hy
  rename_i hks
  injection hy with hy
  injection hy with e1 e2
  subst e1 e2
  obtain ⟨b, ms, hb, hw, hent⟩ := ent_of hin hl
  have ha : a = .map (some b) := by
    cases hx with | mapv _ r hok =>
    have := hok M hl
    rw [show (cx ext β h w).β id = some b from hb] at this
    injection this with this
    rw [this]
  subst ha
  have hc := run_checkKey (P := P) (w := w) hd (hkey _ _ hk) ms.isEmpty 9999
  have hnm0 := (hin.nm id _ hl).2
  rcases findNow_ent hki hko hk hd 0 hent hks with ⟨h1, h2, h3, h4⟩ | ⟨j, y, m, h1, h2, h3, h4, h5, ⟨k', h6⟩, h7, h8, h9⟩
  · obtain ⟨k1, k2, k3⟩ := map_upd (M' := ⟨adel k M.es, M.clock⟩) (ms' := ms) hin hl hb hw (by rw [h4]; exact hnm0) (by rw [h4]; exact hent)
    refine ⟨.value (.tuple #[]), .tuple #[], _, β, ?_, .inl rfl, k1.mono fun _ => .inl, .tuple _ _ rfl (fun i x v h => by simp at h), .tuple [] (by simp), k2, k3 _⟩
    simp [Builtin.delete_, run_underlying (und_map ht), Go.MapKept.run_getObj_map hw, hc, run_findKey hd h1, Go.MapKept.run_setObj_map _ hw, Result.andThen]
  · have hlt : j < ms.size := by
      have := (List.getElem?_eq_some_iff.1 h2).1
      simpa using this
    have hE : EntL (cx ext β h w) (adel k M.es) (ms.eraseIdxIfInBounds j).toList := by
      rw [h8, Array.eraseIdxIfInBounds, dif_pos hlt, Array.toList_eraseIdx]
      have hlt2 : j < M.es.length := (List.getElem?_eq_some_iff.1 h6).1
      refine ⟨by rw [List.length_eraseIdx, List.length_eraseIdx, if_pos hlt2, if_pos (by simpa using hlt), hent.1], fun i k2 v2 n2 m2 e1 e2 => ?_⟩
      rw [List.getElem?_eraseIdx] at e1 e2
      split at e1
      · rename_i hi
        rw [if_pos hi] at e2
        exact hent.2 i k2 v2 n2 m2 e1 e2
      · rename_i hi
        rw [if_neg hi] at e2
        exact hent.2 (i + 1) k2 v2 n2 m2 e1 e2
    obtain ⟨k1, k2, k3⟩ := map_upd (M' := ⟨adel k M.es, M.clock⟩) hin hl hb hw (by rw [h8]; exact fun e he => hnm0 e (List.mem_of_mem_eraseIdx he)) hE
    refine ⟨.value (.tuple #[]), .tuple #[], _, β, ?_, .inl rfl, k1.mono fun _ => .inl, .tuple _ _ rfl (fun i x v h => by simp at h), .tuple [] (by simp), k2, k3 _⟩
    simp [Builtin.delete_, run_underlying (und_map ht), Go.MapKept.run_getObj_map hw, hc, run_findKey hd h1, Go.MapKept.run_setObj_map _ hw, Result.andThen]

/-- An entry is got ahead of a store. -/
theorem out_mapEntry (hin : HIn ext β p h w) {t : TypeId} {x k y : AVal} {h' : Heap} {a u : Value} (hx : VRel (cx ext β h w) x a) (hk : VRel (cx ext β h w) k u) (hnk : Nm p k) (hy : amapEntry P h t x k = some (y, h')) :
    Out P ext β p h w fresh (do pure (.value (← Instr.mapEntry t a u))) y h' := by
  unfold amapEntry at hy
  split at hy
  case h_2 => cases hy
  rename_i kt et _ _ _ ht
  split at hy
  case h_2 => cases hy
  rename_i ki ei hki hei
  split at hy
  case isFalse => cases hy
  rename_i hko
  obtain ⟨d, hd, hkey⟩ := keyOk_is hki hko
  obtain ⟨z, hz, hz1, _⟩ := run_zero (P := P) w hei
  have zrel : VRel (cx ext β h w) ei.zero z := by rw [← hz1]; exact VRel_ofV _ z
  have znm : Nm p ei.zero := by rw [← hz1]; exact Fz.nm (Fz_ofV z) p
  split at hy
  case h_2 => cases hy
  rename_i id
  split at hy
  case h_2 => cases hy
  rename_i M hl
  split at hy
  case isFalse => cases hy
  rename_i hks
  obtain ⟨b, ms, hb, hw, hent⟩ := ent_of hin hl
  have ha : a = .map (some b) := by
    cases hx with | mapv _ r hok =>
    have := hok M hl
    rw [show (cx ext β h w).β id = some b from hb] at this
    injection this with this
    rw [this]
  subst ha
  have hc := run_checkKey (P := P) (w := w) hd (hkey _ _ hk) false 9999
  have hnm0 := (hin.nm id _ hl).2
  have pair : ∀ (c : Cx) (q : Nat → Prop) (x1 : AVal) (v1 : Value) (n : Nat), VRel c x1 v1 → Nm q x1 → VRel c (.tuple [x1, .int .i64 n]) (.tuple #[v1, goInt n]) ∧ Nm q (.tuple [x1, .int .i64 n]) := fun c q x1 v1 n h1 h2 => by
    refine ⟨.tuple _ _ rfl fun i q' v' e1 e2 => ?_, .tuple _ fun q' e => ?_⟩
    · match i, e1, e2 with
      | 0, e1, e2 => simp at e1 e2; subst e1; subst e2; exact h1
      | 1, e1, e2 => simp at e1 e2; subst e1; subst e2; exact .int _ _
      | i + 2, e1, e2 => simp at e1
    · simp only [List.mem_cons, List.not_mem_nil, or_false] at e
      rcases e with rfl | rfl
      · exact h2
      · exact .int _ _
  rcases findNow_ent hki hko hk hd 0 hent hks with ⟨h1, h2, h3, h4⟩ | ⟨j, y', m, h1, h2, h3, h4, h5, ⟨k', h6⟩, h7, h8, h9⟩
  · rw [h2] at hy
    injection hy with hy
    injection hy with e1 e2
    subst e1 e2
    rw [h3]
    obtain ⟨k1, k2, k3⟩ := map_upd (M' := ⟨M.es ++ [(k, ei.zero, M.clock)], M.clock + 1⟩) hin hl hb hw (nm_push hnm0 hnk znm) (ent_push hent hk zrel)
    obtain ⟨q1, q2⟩ := pair _ p _ _ M.clock (zrel.step (k3 p) znm) znm
    refine ⟨.value (.tuple #[z, goInt M.clock]), .tuple #[z, goInt M.clock], _, β, ?_, .inl rfl, k1.mono fun _ => .inl, q1, q2.mono fun _ => .inl, k2, k3 _⟩
    simp [Instr.mapEntry, run_underlying (und_map ht), Go.MapKept.run_getObj_map hw, hc, run_findKey hd h1, hz, Go.MapKept.run_setObj_map _ hw, Result.andThen]
  · rw [h4] at hy
    injection hy with hy
    injection hy with e1 e2
    subst e1 e2
    rw [h7, h9]
    have hj : ms[j]? = some m := by simpa using h2
    have hy' : Nm p y' := (hnm0 _ (List.mem_of_getElem? h6)).2
    obtain ⟨k1, k2, k3⟩ := map_upd (M' := ⟨M.es.set j (k, y', m.born), M.clock⟩) hin hl hb hw (nm_setE hnm0 hnk hy') (ent_modify (f := fun e => { e with key := u }) hent h2 hk h5 rfl)
    obtain ⟨q1, q2⟩ := pair _ p _ _ m.born (h5.step (k3 p) hy') hy'
    refine ⟨.value (.tuple #[m.val, goInt m.born]), .tuple #[m.val, goInt m.born], _, β, ?_, .inl rfl, k1.mono fun _ => .inl, q1, q2.mono fun _ => .inl, k2, k3 _⟩
    simp [Instr.mapEntry, run_underlying (und_map ht), Go.MapKept.run_getObj_map hw, hc, run_findKey hd h1, hj, h3, run_keyThatStays (hkey _ _ hk), Go.MapKept.run_setObj_map _ hw, Result.andThen]

theorem stamp_ent {c : Cx} {b : Int} {z : AVal} {v : Value} (hv : VRel c z v) : ∀ {es es' : List (AVal × AVal × Nat)} {ms : List MapEntry}, EntL c es ms → astamp b z es = some es' →
    ∃ j, ms.findIdx? (fun e => (e.born : Int) == b) = some j ∧ EntL c es' (ms.modify j fun e => { e with val := v }) ∧ ∀ e, e ∈ es' → (∃ e0, e0 ∈ es ∧ e.1 = e0.1 ∧ (e.2.1 = e0.2.1 ∨ e.2.1 = z))
  | [], es', ms, _, h => by cases h
  | e :: es, es', [], h, _ => by simpa using h.1
  | e :: es, es', m :: ms, h, hs => by
    obtain ⟨r1, r2, rb, r3⟩ := h.tail
    simp only [astamp] at hs
    split at hs
    · rename_i he
      injection hs with hs
      subst hs
      refine ⟨0, by simp [List.findIdx?_cons, rb, he], ⟨by simpa using r3.1, fun i k2 v2 n2 m2 e1 e2 => ?_⟩, fun x hx => ?_⟩
      · cases i with
        | zero =>
          simp at e1 e2
          obtain ⟨rfl, rfl, rfl⟩ := e1
          subst e2
          exact ⟨r1, hv, rb⟩
        | succ i => exact r3.2 i k2 v2 n2 m2 (by simpa using e1) (by simpa using e2)
      · rcases List.mem_cons.1 hx with rfl | hx
        · exact ⟨e, List.mem_cons_self, rfl, .inr rfl⟩
        · exact ⟨x, List.mem_cons_of_mem _ hx, rfl, .inl rfl⟩
    · rename_i he
      cases hq : astamp b z es with
      | none => rw [hq] at hs; cases hs
      | some es2 =>
        rw [hq] at hs
        injection hs with hs
        subst hs
        obtain ⟨j, f1, f2, f3⟩ := stamp_ent hv r3 hq
        refine ⟨j + 1, by simp [List.findIdx?_cons, rb, he, f1], ⟨by simpa using f2.1, fun i k2 v2 n2 m2 e1 e2 => ?_⟩, fun x hx => ?_⟩
        · cases i with
          | zero =>
            simp at e1 e2
            subst e1
            subst e2
            exact ⟨r1, r2, rb⟩
          | succ i => exact f2.2 i k2 v2 n2 m2 (by simpa using e1) (by simpa using e2)
        · rcases List.mem_cons.1 hx with rfl | hx
          · exact ⟨x, List.mem_cons_self, rfl, .inl rfl⟩
          · obtain ⟨e0, g1, g2⟩ := f3 x hx
            exact ⟨e0, List.mem_cons_of_mem _ g1, g2⟩

theorem out_entryStore (hin : HIn ext β p h w) {t : TypeId} {x k z : AVal} {h' : Heap} {a u v : Value} (hx : VRel (cx ext β h w) x a) (hk : VRel (cx ext β h w) k u) (hv : VRel (cx ext β h w) z v) (hnv : Nm p z) (hy : aentryStore h x k z = some h') :
    Out P ext β p h w fresh (do Instr.entryStore t a u v; pure .skip) .junk h' := by
  unfold aentryStore at hy
  split at hy
  case h_2 => cases hy
  rename_i id b0
  split at hy
  case h_2 => cases hy
  rename_i M hl
  obtain ⟨es', hs, hy⟩ := Option.map_eq_some_iff.1 hy
  subst hy
  obtain ⟨b, ms, hb, hw, hent⟩ := ent_of hin hl
  have ha : a = .map (some b) := by
    cases hx with | mapv _ r hok =>
    have := hok M hl
    rw [show (cx ext β h w).β id = some b from hb] at this
    injection this with this
    rw [this]
  subst ha
  cases hk
  obtain ⟨j, f1, f2, f3⟩ := stamp_ent hv hent hs
  have hnm0 := (hin.nm id _ hl).2
  obtain ⟨k1, k2, k3⟩ := map_upd (M' := ⟨es', M.clock⟩) (ms' := ms.modify j fun e => { e with val := v }) hin hl hb hw (fun e he => by
    obtain ⟨e0, g1, g2, g3⟩ := f3 e he
    have := hnm0 e0 g1
    rw [g2]
    rcases g3 with g3 | g3
    · rw [g3]; exact this
    · rw [g3]; exact ⟨this.1, hnv⟩) (by rw [Array.toList_modify]; exact f2)
  refine ⟨.skip, undef, _, β, ?_, .inr ⟨rfl, rfl⟩, k1.mono fun _ => .inl, .junk _, .junk, k2, k3 _⟩
  have f4 : ms.findIdx? (fun e => (e.born : Int) == b0) = some j := by
    rw [← f1]
    cases ms
    simp
  simp [Instr.entryStore, Go.MapKept.run_getObj_map hw, asInt, asIntOf, f4, Go.MapKept.run_setObj_map _ hw, Result.andThen]

/-- A map is made. -/
theorem out_makeMap (hin : HIn ext β p h w) (hpf : ¬ p fresh) {t : TypeId} : Out P ext β p h w fresh (do pure (.value (← Instr.makeMap t none))) (.mapv fresh) ((fresh, .mp ⟨[], 0⟩) :: h) := by
  obtain ⟨k1, k2, k3⟩ := HIn.new (w' := w.alloc (.map #[] 0)) (o := .map #[] 0) hin (id := fresh) (q := fun j => p j ∨ j = fresh) (ob := .mp ⟨[], 0⟩) hpf (fun _ => .inl) (.inr rfl) ⟨rfl, rfl, rfl, rfl⟩ (fun e he => by cases he)
    (fun st => ⟨w.heap.size, #[], by simp [cx], (heap_alloc w _).1, rfl, fun i k v n m h1 => by simp at h1⟩)
  refine ⟨.value (.map (some w.heap.size)), .map (some w.heap.size), _, newβ β fresh w.heap.size, ?_, .inl rfl, k1, .mapv _ _ fun es _ => by simp [cx, newβ], .mapv _ (.inr rfl), k2, k3⟩
  simp [Instr.makeMap, Result.andThen]

theorem nm_mapv (q : Nat → Prop) (id : Nat) : Nm q (.mapv id) ↔ q id := ⟨fun h => by cases h with | mapv _ h => exact h, fun h => .mapv id h⟩

/-- Maps of numbers to numbers. -/
abbrev IM := List (Int × Int × Nat)
def mpe (m : IM) : List (AVal × AVal × Nat) := m.map fun e => (.int .i64 e.1, .int .i64 e.2.1, e.2.2)

def mget (k : Int) : IM → Option Int
  | [] => none
  | e :: m => if k = e.1 then some e.2.1 else mget k m
def mput (k v : Int) (n : Nat) : IM → IM
  | [] => [(k, v, n)]
  | e :: m => if k = e.1 then (k, v, e.2.2) :: m else e :: mput k v n m
def mdel (k : Int) : IM → IM
  | [] => []
  | e :: m => if k = e.1 then m else e :: mdel k m
def mborn (k : Int) : IM → Nat
  | [] => 0
  | e :: m => if k = e.1 then e.2.2 else mborn k m
def mstamp (b : Int) (v : Int) : IM → Option IM
  | [] => none
  | e :: m => if (e.2.2 : Int) == b then some ((e.1, v, e.2.2) :: m) else (mstamp b v m).map (e :: ·)

theorem mpe_nil : ([] : List (AVal × AVal × Nat)) = mpe [] := rfl
theorem mpe_keys (m : IM) : keysOk (.int .i64) (mpe m) = true := by
  simp only [keysOk, mpe, List.all_map, List.all_eq_true]
  intro e _
  simp [keyOk]
theorem alook_mpe (k : Int) : ∀ m : IM, alook (.int .i64 k) (mpe m) = (mget k m).map fun v => .int .i64 v
  | [] => rfl
  | e :: m => by
    have ih := alook_mpe k m
    simp only [mpe] at ih
    simp only [mpe, List.map_cons, alook, keq, decide_eq_true_eq, mget]
    split
    · rfl
    · exact ih
theorem aput_mpe (k v : Int) (n : Nat) : ∀ m : IM, aput (.int .i64 k) (.int .i64 v) n (mpe m) = mpe (mput k v n m)
  | [] => rfl
  | e :: m => by
    have ih := aput_mpe k v n m
    simp only [mpe] at ih
    simp only [mpe, List.map_cons, aput, keq, decide_eq_true_eq, mput]
    split
    · rfl
    · rw [ih]
      rfl
theorem adel_mpe (k : Int) : ∀ m : IM, adel (.int .i64 k) (mpe m) = mpe (mdel k m)
  | [] => rfl
  | e :: m => by
    have ih := adel_mpe k m
    simp only [mpe] at ih
    simp only [mpe, List.map_cons, adel, keq, decide_eq_true_eq, mdel]
    split
    · rfl
    · rw [ih]
      rfl
theorem aborn_mpe (k : Int) : ∀ m : IM, aborn (.int .i64 k) (mpe m) = mborn k m
  | [] => rfl
  | e :: m => by
    have ih := aborn_mpe k m
    simp only [mpe] at ih
    simp only [mpe, List.map_cons, aborn, keq, decide_eq_true_eq, mborn]
    split
    · rfl
    · exact ih
theorem astamp_mpe (b v : Int) : ∀ m : IM, astamp b (.int .i64 v) (mpe m) = (mstamp b v m).map mpe
  | [] => rfl
  | e :: m => by
    have ih := astamp_mpe b v m
    simp only [mpe] at ih
    simp only [mpe, List.map_cons, astamp, mstamp]
    split
    · rfl
    · rw [ih]
      cases mstamp b v m <;> rfl
theorem mpe_onm (q : Nat → Prop) (m : IM) (c : Nat) : (Ob.mp ⟨mpe m, c⟩).nm q ↔ True := ⟨fun _ => trivial, fun _ e he => by
  simp only [mpe, List.mem_map] at he
  obtain ⟨x, _, rfl⟩ := he
  exact ⟨.int _ _, .int _ _⟩⟩

end
end Go.AM
end

section
namespace Go.AM
open Go

def evs (tmps : List AVal) (xs : Array Operand) : List AVal := xs.toList.map (ev tmps)

def evp (tmps : List AVal) (xs : Array (Nat × Operand)) : List (Nat × AVal) := xs.toList.map fun x => (x.1, ev tmps x.2)

def apick (t : Bool) (a b : AVal) : AVal :=
  match a, b with
  | .bool x, .bool y => .bool (if t then x else y)
  | a, b => if t then a else b

def abuiltin (P : Program) (h : Heap) (fresh : Nat) (b : Builtin) (ts : List TypeId) (xs : List AVal) : Option (AVal × Heap) :=
  match b, ts, xs with
  | .len, [t], [x] => (alen P t x).map fun y => (y, h)
  | .append, [st, xt], [s, x] => aappend P h fresh st xt s x
  | .max, _, [x, y] => (aminmax true x y).map fun y => (y, h)
  | .min, _, [x, y] => (aminmax false x y).map fun y => (y, h)
  | .delete, [t, _], [m, k] => adelete P h t m k
  | _, _, _ => none

def anil : AVal → Bool
  | .ptr _ _ _ _ => true
  | .fp _ => true
  | .func (.func _) _ _ => true
  | _ => false

/-- One operation that calls no function. -/
def astep (P : Program) (tmps : List AVal) (h : Heap) (fresh : Nat) (o : Oper) : Option (AVal × Heap) :=
  match o.op with
  | .move x => some (ev tmps x, h)
  | .assign x => some (ev tmps x, h)
  | .pick c a b => match ev tmps c with | .bool t => some (apick t (ev tmps a) (ev tmps b), h) | _ => none
  | .alloc elem => match tab P elem with | some ti => abox h fresh ti.zero | none => none
  | .box _ x => abox h fresh (ev tmps x)
  | .build t parts => (abuild P t (evp tmps parts)).map fun y => (y, h)
  | .buildSlice t len parts => abuildSlice P h fresh t len (evp tmps parts)
  | .load t a => (aload P h t (ev tmps a)).map fun y => (y, h)
  | .store t a x => (astore P h t (ev tmps a) (ev tmps x)).map fun h' => (.junk, h')
  | .nilCheck x => if anil (ev tmps x) then some (ev tmps x, h) else none
  | .binOp op t x y _ => (abin P op t (ev tmps x) (ev tmps y)).map fun y => (y, h)
  | .unOp op _ x => (aunary op (ev tmps x)).map fun y => (y, h)
  | .convert src dst x => match tab P src with | some _ => (aconvert P dst (ev tmps x)).map fun y => (y, h) | none => none
  | .makeInterface t x => (aiface P t (ev tmps x)).map fun y => (y, h)
  | .makeFunc fn first captured => some (.func fn (evs tmps first) (evs tmps captured), h)
  | .makeSlice t l c => amakeSlice P h fresh t (ev tmps l) (ev tmps c)
  | .slice t x lo hi mx => (aslice P h t (ev tmps x) (lo.map (ev tmps)) (hi.map (ev tmps)) (mx.map (ev tmps))).map fun y => (y, h)
  | .fieldAddr s x f => (afieldAddr P s (ev tmps x) f).map fun y => (y, h)
  | .field s x f => (afield P s (ev tmps x) f).map fun y => (y, h)
  | .indexAddr t x i => (aindexAddr P h t (ev tmps x) (ev tmps i)).map fun y => (y, h)
  | .index t x i => (aindex P t (ev tmps x) (ev tmps i)).map fun y => (y, h)
  | .extract x i => (aextract (ev tmps x) i).map fun y => (y, h)
  | .makeMap _ r => match r with | none => some (.mapv fresh, (fresh, .mp ⟨[], 0⟩) :: h) | some _ => none
  | .lookup t x k ok => (alookup P h t (ev tmps x) (ev tmps k) ok).map fun y => (y, h)
  | .mapUpdate t m k x => (amapUpdate P h t (ev tmps m) (ev tmps k) (ev tmps x)).map fun h' => (.junk, h')
  | .insert t m k x => (amapUpdate P h t (ev tmps m) (ev tmps k) (ev tmps x)).map fun h' => (.junk, h')
  | .mapEntry t m k => amapEntry P h t (ev tmps m) (ev tmps k)
  | .entryStore _ m k x => (aentryStore h (ev tmps m) (ev tmps k) (ev tmps x)).map fun h' => (.junk, h')
  | .call c => match c.callee with | .builtin b => abuiltin P h fresh b c.argTypes.toList (evs tmps c.args) | _ => none
  | _ => none

section
variable {P : Program} {n0 : Nat} {ext : Nat → Prop} {β : Nat → Option Nat} {p : Nat → Prop} {tmps : List AVal} {h : Heap} {a : Act} {w : World} {fresh : Nat}

theorem evs_rel (i : SInP n0 ext β p tmps h a w) (xs : Array Operand) : (xs.map a.eval).size = (evs tmps xs).length ∧ (∀ (k : Nat) x v, (evs tmps xs)[k]? = some x → (xs.map a.eval)[k]? = some v → VRel (cx ext β h w) x v) ∧ ∀ x, x ∈ evs tmps xs → Nm p x := by
  refine ⟨by simp [evs], fun k x v hx hv => ?_, fun x hx => ?_⟩
  · simp only [evs, List.getElem?_map] at hx
    obtain ⟨o, ho, rfl⟩ := Option.map_eq_some_iff.1 hx
    rw [Array.getElem?_map] at hv
    obtain ⟨o', ho', rfl⟩ := Option.map_eq_some_iff.1 hv
    have : o = o' := by
      have h1 : xs.toList[k]? = xs[k]? := by simp
      rw [h1, ho'] at ho
      exact (Option.some.inj ho).symm
    subst this
    exact i.ev o
  · simp only [evs, List.mem_map] at hx
    obtain ⟨o, _, rfl⟩ := hx
    exact i.nm_ev o

theorem evp_rel (i : SInP n0 ext β p tmps h a w) (xs : Array (Nat × Operand)) : (evp tmps xs).length = (xs.map fun (j, x) => (j, a.eval x)).size ∧
    (∀ (k : Nat) x v, (evp tmps xs)[k]? = some x → (xs.map fun (j, x) => (j, a.eval x))[k]? = some v → x.1 = v.1 ∧ VRel (cx ext β h w) x.2 v.2) ∧ ∀ x, x ∈ evp tmps xs → Nm p x.2 := by
  refine ⟨by simp [evp], fun k x v hx hv => ?_, fun x hx => ?_⟩
  · simp only [evp, List.getElem?_map] at hx
    obtain ⟨o, ho, rfl⟩ := Option.map_eq_some_iff.1 hx
    rw [Array.getElem?_map] at hv
    obtain ⟨o', ho', rfl⟩ := Option.map_eq_some_iff.1 hv
    have : o = o' := by
      have h1 : xs.toList[k]? = xs[k]? := by simp
      rw [h1, ho'] at ho
      exact (Option.some.inj ho).symm
    subst this
    exact ⟨rfl, i.ev o.2⟩
  · simp only [evp, List.mem_map] at hx
    obtain ⟨o, _, rfl⟩ := hx
    exact i.nm_ev o.2

theorem map_pair {α : Type} {o : Option α} {h : Heap} {r : α × Heap} (e : (o.map fun y => (y, h)) = some r) : o = some r.1 ∧ r.2 = h := by
  obtain ⟨y, h1, rfl⟩ := Option.map_eq_some_iff.1 e
  exact ⟨h1, rfl⟩

theorem list_two {α : Type} {l : Array α} {x y : α} (h : l.toList = [x, y]) : l = #[x, y] := by
  cases l; simp at h; subst h; rfl

theorem list_one {α : Type} {l : Array α} {x : α} (h : l.toList = [x]) : l = #[x] := by
  cases l; simp at h; subst h; rfl

/-- The operation's own run, for what gives a value. -/
theorem out_val (hin : HIn ext β p h w) {s : Sem Value} {x : AVal} (hs : ∃ u, s.run P w = .ok u w ∧ VRel (cx ext β h w) x u ∧ Nm p x) : Out P ext β p h w fresh (do pure (.value (← s))) x h := by
  obtain ⟨u, h1, h2, h3⟩ := hs
  exact out_pure hin (v := u) (by simp [h1]) h2 h3

theorem out_builtin (i : SInP n0 ext β p tmps h a w) (hpf : ¬ p fresh) {o : Oper} {c : Call} (ho : o.op = .call c) {b : Builtin} (hb : c.callee = .builtin b) {y : AVal} {h' : Heap}
    (hy : abuiltin P h fresh b c.argTypes.toList (evs tmps c.args) = some (y, h')) : Out P ext β p h w fresh (execOp a.eval o) y h' := by
  have hex : execOp a.eval o = builtin b c.argTypes o.type (c.args.map fun | .const _ => true | _ => false) (c.args.map a.eval) := by
    simp only [execOp, ho, resolve, hb, pure_bind]
    rfl
  rw [hex]
  obtain ⟨e1, e2, e3⟩ := evs_rel i c.args
  have one : ∀ x, evs tmps c.args = [x] → ∃ v, c.args.map a.eval = #[v] ∧ VRel (cx ext β h w) x v ∧ Nm p x := fun x hx => by
    have hl : (c.args.map a.eval).size = 1 := by rw [e1, hx]; rfl
    obtain ⟨v, hv⟩ : ∃ v, c.args.map a.eval = #[v] := by
      generalize c.args.map a.eval = l at hl
      obtain ⟨l⟩ := l
      match l, hl with
      | [v], _ => exact ⟨v, rfl⟩
    exact ⟨v, hv, e2 0 x v (by rw [hx]; rfl) (by rw [hv]; rfl), e3 x (by rw [hx]; simp)⟩
  have two : ∀ x z, evs tmps c.args = [x, z] → ∃ v u, c.args.map a.eval = #[v, u] ∧ VRel (cx ext β h w) x v ∧ VRel (cx ext β h w) z u ∧ Nm p x ∧ Nm p z := fun x z hx => by
    have hl : (c.args.map a.eval).size = 2 := by rw [e1, hx]; rfl
    obtain ⟨v, u, hv⟩ : ∃ v u, c.args.map a.eval = #[v, u] := by
      generalize c.args.map a.eval = l at hl
      obtain ⟨l⟩ := l
      match l, hl with
      | [v, u], _ => exact ⟨v, u, rfl⟩
    exact ⟨v, u, hv, e2 0 x v (by rw [hx]; rfl) (by rw [hv]; rfl), e2 1 z u (by rw [hx]; rfl) (by rw [hv]; rfl), e3 x (by rw [hx]; simp), e3 z (by rw [hx]; simp)⟩
  unfold abuiltin at hy
  split at hy
  case h_6 => cases hy
  · rename_i t x hts hxs
    obtain ⟨h1, h2⟩ := map_pair hy
    simp only at h1 h2
    subst h2
    obtain ⟨v, hv, hr, hn⟩ := one x hxs
    rw [hv, list_one hts]
    exact out_val (s := Builtin.len_ #[t] o.type #[v]) i.heap (alen_ok (c := cx ext β _ w) w hr h1)
  · rename_i st xt s x hts hxs
    obtain ⟨v, u, hv, hr, hr', hn, hn'⟩ := two s x hxs
    rw [hv, list_two hts]
    exact out_aappend i.heap hpf hr hr' hn hn' hy
  · rename_i x z hxs
    obtain ⟨h1, h2⟩ := map_pair hy
    simp only at h1 h2
    subst h2
    obtain ⟨v, u, hv, hr, hr', hn, hn'⟩ := two x z hxs
    rw [hv]
    exact out_val (s := Builtin.max_ c.argTypes o.type #[v, u]) i.heap (amax_ok w hr hr' h1)
  · rename_i x z hxs
    obtain ⟨h1, h2⟩ := map_pair hy
    simp only at h1 h2
    subst h2
    obtain ⟨v, u, hv, hr, hr', hn, hn'⟩ := two x z hxs
    rw [hv]
    exact out_val (s := Builtin.min_ c.argTypes o.type #[v, u]) i.heap (amin_ok w hr hr' h1)
  · rename_i t kt m k hts hxs
    obtain ⟨v, u, hv, hr, hr', hn, hn'⟩ := two m k hxs
    rw [hv, list_two hts]
    exact out_delete i.heap hr hr' hy

theorem Fz_zero {t : TypeId} {ti : TI} (ht : tab P t = some ti) : Fz ti.zero := by
  obtain ⟨i, d, z, h1, h2, h3, h4, h5, h6, h7, h8⟩ := tab_spec ht
  rw [← h8]
  exact Fz_ofV z

/-- One operation of the machine goes as it does over the abstract state. -/
theorem astep_ok (i : SInP n0 ext β p tmps h a w) (hpf : ¬ p fresh) {o : Oper} {y : AVal} {h' : Heap} (hy : astep P tmps h fresh o = some (y, h')) : Out P ext β p h w fresh (execOp a.eval o) y h' := by
  have hin := i.heap
  obtain ⟨dst, op, type, pos, after, guard⟩ := o
  cases op <;> simp only [astep] at hy <;> try (cases hy; done)
  case move x => injection hy with hy; injection hy with e1 e2; subst e1 e2; exact out_pure hin (v := a.eval x) rfl (i.ev x) (i.nm_ev x)
  case assign x => injection hy with hy; injection hy with e1 e2; subst e1 e2; exact out_pure hin (v := a.eval x) rfl (i.ev x) (i.nm_ev x)
  case pick c x z =>
    split at hy
    case h_2 => cases hy
    rename_i t hc
    injection hy with hy; injection hy with e1 e2; subst e1 e2
    have hv := i.ev c
    rw [hc] at hv
    generalize hz : a.eval c = cv at hv
    cases hv
    refine out_pure hin (v := if t then a.eval x else a.eval z) (by simp only [execOp, hz]; rfl) ?_ ?_
    · unfold apick
      split
      · rename_i q1 q2 h1 h2
        have r1 := i.ev x; have r2 := i.ev z
        rw [h1] at r1; rw [h2] at r2
        cases t
        · generalize a.eval z = zz at r2; cases r2; simpa using VRel.bool _
        · generalize a.eval x = zz at r1; cases r1; simpa using VRel.bool _
      · cases t
        · simpa using i.ev z
        · simpa using i.ev x
    · unfold apick
      split
      · exact .bool _
      · cases t
        · simpa using i.nm_ev z
        · simpa using i.nm_ev x
  case alloc elem =>
    split at hy
    case h_2 => cases hy
    rename_i ti ht
    obtain ⟨z, hz, hz1, _⟩ := run_zero (P := P) w ht
    refine out_abox (elem := elem) hin hpf (v := z) (by rw [← hz1]; exact VRel_ofV _ z) (Fz.nm (Fz_zero ht) p) hy ?_
    simp [execOp, Instr.alloc, hz]
  case box elem x =>
    refine out_abox (elem := elem) hin hpf (i.ev x) (i.nm_ev x) hy ?_
    simp [execOp, Instr.box]
  case build t parts =>
    obtain ⟨h1, h2⟩ := map_pair hy
    simp only at h1 h2
    subst h2
    obtain ⟨e1, e2, e3⟩ := evp_rel i parts
    exact out_val (s := Instr.build t (parts.map fun (j, x) => (j, a.eval x))) hin (abuild_ok w e1 e2 e3 h1)
  case buildSlice t len parts =>
    obtain ⟨e1, e2, e3⟩ := evp_rel i parts
    exact out_buildSlice hin hpf e1 e2 e3 hy
  case load t x =>
    obtain ⟨h1, h2⟩ := map_pair hy
    simp only at h1 h2
    subst h2
    exact out_val (s := Instr.loadAt t (a.eval x)) hin (aload_ok hin (i.ev x) (i.nm_ev x) h1)
  case store t x z =>
    obtain ⟨h1, h2, h3⟩ := Option.map_eq_some_iff.1 hy
    injection h3 with e1 e2
    subst e1 e2
    exact out_astore hin (i.ev x) (i.ev z) (i.nm_ev x) (i.nm_ev z) h2
  case nilCheck x =>
    split at hy
    case isFalse => cases hy
    rename_i hn
    injection hy with hy; injection hy with e1 e2; subst e1 e2
    have hv := i.ev x
    refine out_pure hin (v := a.eval x) ?_ hv (i.nm_ev x)
    simp only [execOp]
    generalize a.eval x = v at hv
    generalize ev tmps x = z at hv hn
    cases hv <;> simp [anil] at hn <;> try rfl
    rename_i fn _ _ _ _ _ _ _ _
    cases fn <;> simp at hn
    rfl
  case binOp op t x z yt =>
    obtain ⟨h1, h2⟩ := map_pair hy
    simp only at h1 h2
    subst h2
    obtain ⟨r, h3, h4, h5⟩ := abin_ok (P := P) (cx ext β _ w) w (i.ev x) (i.ev z) h1 x z
    exact out_pure hin (v := r) (by
      have : execOp a.eval { dst := dst, op := .binOp op t x z yt, type := type, pos := pos, after := after, guard := guard } = (do pure (.value (← (do eqGuard op t x z (a.eval x) (a.eval z); binOp op t (a.eval x) (a.eval z) : Sem Value))) : Sem Next) := rfl
      rw [this, Sem.run_bind, h3]; rfl) h4 (Fz.nm h5 p)
  case unOp op t x =>
    obtain ⟨h1, h2⟩ := map_pair hy
    simp only at h1 h2
    subst h2
    exact out_val (s := Op.unary op (a.eval x)) hin (aunary_ok w (i.ev x) h1)
  case convert src dst' x =>
    split at hy
    case h_2 => cases hy
    rename_i ts ht
    obtain ⟨h1, h2⟩ := map_pair hy
    simp only at h1 h2
    subst h2
    exact out_val (s := convert src dst' (a.eval x)) hin (aconvert_ok w ht (i.ev x) h1)
  case makeInterface t x =>
    obtain ⟨h1, h2⟩ := map_pair hy
    simp only at h1 h2
    subst h2
    exact out_val (s := Instr.makeInterface t (a.eval x)) hin (aiface_ok w (i.ev x) (i.nm_ev x) h1)
  case makeFunc fn first captured =>
    injection hy with hy; injection hy with e1 e2; subst e1 e2
    obtain ⟨e1, e2, e3⟩ := evs_rel i first
    obtain ⟨e4, e5, e6⟩ := evs_rel i captured
    exact out_pure hin (v := .func fn (first.map a.eval) (captured.map a.eval)) rfl (.func _ _ _ _ _ e1 e4 e2 e5) (.func _ _ _ e3 e6)
  case makeSlice t l c => exact out_makeSlice hin hpf (i.ev l) (i.ev c) hy
  case slice t x lo hi mx =>
    obtain ⟨h1, h2⟩ := map_pair hy
    simp only at h1 h2
    subst h2
    have ho : ∀ (o : Option Operand) x, o.map (ev tmps) = some x → ∃ v, o.map a.eval = some v ∧ VRel (cx ext β _ w) x v := fun o x hx => by
      obtain ⟨q, rfl, rfl⟩ := Option.map_eq_some_iff.1 hx
      exact ⟨_, rfl, i.ev q⟩
    have hno : ∀ (o : Option Operand), o.map (ev tmps) = none → o.map a.eval = none := fun o ho => by cases o <;> simp at ho ⊢
    exact out_val (s := Instr.sliceAt t (a.eval x) (lo.map a.eval) (hi.map a.eval) (mx.map a.eval)) hin
      (aslice_ok (c := cx ext β _ w) w (i.ev x) (i.nm_ev x) h1 (ho lo) (hno lo) (ho hi) (hno hi) (ho mx) (hno mx))
  case fieldAddr t x f =>
    obtain ⟨h1, h2⟩ := map_pair hy
    simp only at h1 h2
    subst h2
    exact out_val (s := Instr.fieldAt t (a.eval x) f) hin (afieldAddr_ok w (i.ev x) (i.nm_ev x) h1)
  case field t x f =>
    obtain ⟨h1, h2⟩ := map_pair hy
    simp only at h1 h2
    subst h2
    exact out_val (s := Instr.field t (a.eval x) f) hin (afield_ok w (i.ev x) (i.nm_ev x) h1)
  case indexAddr t x ix =>
    obtain ⟨h1, h2⟩ := map_pair hy
    simp only at h1 h2
    subst h2
    exact out_val (s := Instr.indexAt t (a.eval x) (a.eval ix)) hin (aindexAddr_ok (c := cx ext β _ w) w (i.ev x) (i.ev ix) (i.nm_ev x) h1)
  case index t x ix =>
    obtain ⟨h1, h2⟩ := map_pair hy
    simp only at h1 h2
    subst h2
    exact out_val (s := Instr.index t (a.eval x) (a.eval ix)) hin (aindex_ok w (i.ev x) (i.ev ix) (i.nm_ev x) h1)
  case extract x ix =>
    obtain ⟨h1, h2⟩ := map_pair hy
    simp only at h1 h2
    subst h2
    exact out_val (s := Instr.extract (a.eval x) ix) hin (aextract_ok w (i.ev x) (i.nm_ev x) h1)
  case makeMap t r =>
    split at hy
    · injection hy with hy; injection hy with e1 e2; subst e1 e2
      exact out_makeMap hin hpf
    · cases hy
  case lookup t x k ok =>
    obtain ⟨h1, h2⟩ := map_pair hy
    simp only at h1 h2
    subst h2
    exact out_val (s := Instr.lookup t (a.eval x) (a.eval k) ok) hin (out_lookup hin (i.ev x) (i.ev k) (i.nm_ev x) h1)
  case mapUpdate t m k x =>
    obtain ⟨h1, h2, h3⟩ := Option.map_eq_some_iff.1 hy
    injection h3 with e1 e2
    subst e1 e2
    exact out_mapUpdate hin (i.ev m) (i.ev k) (i.ev x) (i.nm_ev k) (i.nm_ev x) h2
  case insert t m k x =>
    obtain ⟨h1, h2, h3⟩ := Option.map_eq_some_iff.1 hy
    injection h3 with e1 e2
    subst e1 e2
    exact out_mapUpdate hin (i.ev m) (i.ev k) (i.ev x) (i.nm_ev k) (i.nm_ev x) h2
  case mapEntry t m k => exact out_mapEntry hin (i.ev m) (i.ev k) (i.nm_ev k) hy
  case entryStore t m k x =>
    obtain ⟨h1, h2, h3⟩ := Option.map_eq_some_iff.1 hy
    injection h3 with e1 e2
    subst e1 e2
    exact out_entryStore (t := t) hin (i.ev m) (i.ev k) (i.ev x) (i.nm_ev x) h2
  case call c =>
    split at hy
    case h_2 => cases hy
    rename_i b hb
    exact out_builtin i hpf rfl hb hy

end
end Go.AM
end

section
namespace Go.AM
open Go

def putT (tmps : List AVal) (dst : Option Tmp) (x : AVal) : List AVal :=
  match dst with
  | some d => tmps.set d x
  | none => tmps

/-- What an operation's guard says: is it to be done? -/
def guardA (all : Array Oper) (tmps : List AVal) (o : Oper) : Option Bool :=
  match o.guard with
  | none => some true
  | some (j, want) =>
    match (all[j]?).bind (·.dst) with
    | some d => match tmps.getD d .junk with | .bool b => some (b == want) | .tuple [] => some false | _ => none
    | none => none

section
variable {P : Program} {n0 : Nat} {ext : Nat → Prop} {β : Nat → Option Nat} {p : Nat → Prop} {tmps : List AVal} {h : Heap} {a : Act} {w : World} {fresh : Nat}

theorem guard_ok (i : SInP n0 ext β p tmps h a w) {all : Array Oper} {o : Oper} {b : Bool} (hg : guardA all tmps o = some b) : Region.wanted o (yielded all a.tmps) = b := by
  unfold guardA at hg
  unfold Region.wanted
  split at hg
  · rename_i hn; rw [hn]; injection hg with hg
  · rename_i j want hn
    rw [hn]
    split at hg
    case h_2 => cases hg
    rename_i d hd
    split at hg
    case h_3 => cases hg
    case h_2 hb =>
      injection hg with hg
      have hv := i.ev (.tmp d)
      simp only [AM.ev] at hv
      rw [hb] at hv
      generalize hz : a.eval (.tmp d) = v at hv
      cases hv with
      | tuple _ vs hlen _ =>
        simp only [yielded, hd, Option.bind_some]
        rw [← hg]
        simp only [Act.eval, Array.getD_eq_getD_getElem?] at hz
        cases hq : a.tmps[d]? with
        | none => cases want <;> rfl
        | some u =>
          rw [hq, Option.getD_some] at hz
          subst hz
          cases want <;> rfl
    rename_i b0 hb
    injection hg with hg
    have hv := i.ev (.tmp d)
    simp only [AM.ev] at hv
    rw [hb] at hv
    generalize hz : a.eval (.tmp d) = v at hv
    cases hv
    have hlt : d < a.tmps.size := by
      rcases Nat.lt_or_ge d a.tmps.size with h1 | h1
      · exact h1
      · simp only [Act.eval, Array.getD_eq_getD_getElem?, Array.getElem?_eq_none h1, Option.getD_none] at hz
        cases hz
    have : a.tmps[d]? = some (.bool b0) := by
      simp only [Act.eval, Array.getD_eq_getD_getElem?, Array.getElem?_eq_getElem hlt, Option.getD_some] at hz
      rw [Array.getElem?_eq_getElem hlt, hz]
    simp only [yielded, hd, Option.bind_some, this]
    rw [← hg]
    cases b0 <;> cases want <;> rfl

theorem rel_undef {c : Cx} : VRel c (.tuple []) undef := .tuple [] #[] rfl (fun i x v h => by simp at h)

/-- A slot is written, and the world goes on. -/
theorem SInP.put {q : Nat → Prop} {β' : Nat → Option Nat} {h' : Heap} {w' : World} (i : SInP n0 ext β p tmps h a w) (hin : HIn ext β' q h' w') (hpq : ∀ j, p j → q j) (hst : Step p (cx ext β h w) (cx ext β' h' w'))
    {x : AVal} {v : Value} (hv : VRel (cx ext β' h' w') x v) (hn : Nm q x) (dst : Option Tmp) : SInP n0 ext β' q (putT tmps dst x) h' (a.put dst v) w' := by
  refine ⟨hin, ?_, fun k y u hy hu => ?_, fun y hy => ?_, ?_, fun j hj => hpq j (i.low j hj)⟩
  · cases dst <;> simp [putT, Act.put, i.size]
  · cases dst with
    | none => exact (i.rel k y u hy hu).step hst (i.nm y (List.mem_of_getElem? hy))
    | some d =>
      simp only [putT, Act.put] at hy hu
      by_cases e : d = k
      · subst e
        have hlt : d < tmps.length := by have := (List.getElem?_eq_some_iff.1 hy).1; simpa using this
        rw [List.getElem?_set_self hlt] at hy
        rw [Array.getElem?_setIfInBounds_self_of_lt (by rw [i.size]; exact hlt)] at hu
        injection hy with hy
        injection hu with hu
        exact hy ▸ hu ▸ hv
      · rw [List.getElem?_set_ne e] at hy
        rw [Array.getElem?_setIfInBounds_ne e] at hu
        exact (i.rel k y u hy hu).step hst (i.nm y (List.mem_of_getElem? hy))
  · cases dst with
    | none => exact (i.nm y hy).mono hpq
    | some d =>
      simp only [putT] at hy
      rcases List.mem_or_eq_of_mem_set hy with h1 | h1
      · exact (i.nm y h1).mono hpq
      · exact h1 ▸ hn
  · cases dst <;> simp [Act.put, i.defers]

theorem SInP.mono {q : Nat → Prop} (i : SInP n0 ext β p tmps h a w) (hpq : ∀ j, p j → q j) : SInP n0 ext β q tmps h a w :=
  ⟨i.heap.mono hpq, i.size, i.rel, fun y hy => (i.nm y hy).mono hpq, i.defers, fun j hj => hpq j (i.low j hj)⟩

end

/-- A row of operations, one behind the other. -/
def AO (P : Program) (n0 : Nat) (all : Array Oper) (rest : List Oper) (i : Nat) (K : St → Prop) (s : St) : Prop :=
  all.toList.drop i = rest → ∀ ext β a w, SIn n0 ext β s a w → ∀ Q, (∀ β' s' a' w', K s' → SIn n0 ext β' s' a' w' → Goes n0 ext β s.h w β' s'.h w' → Q .normal a' w') →
    wpOps P all Q (List.range' i rest.length) a w

section
variable {P : Program} {n0 : Nat} {all : Array Oper} {K : St → Prop}

theorem AO_nil {i : Nat} {s : St} (h : K s) : AO P n0 all [] i K s := fun _ ext β _ w hs _ hq => hq β s _ _ h hs (Goes.refl n0 ext β s.h w)

theorem AO_cons {o : Oper} {rest : List Oper} {i : Nat} {s : St}
    (h : ∀ ext β a w, SIn n0 ext β s a w → all[i]? = some o → ∀ Q (next : Act → World → Prop),
      (∀ β' s' a' w', AO P n0 all rest (i + 1) K s' → SIn n0 ext β' s' a' w' → Goes n0 ext β s.h w β' s'.h w' → next a' w') →
      if Region.wanted o (yielded all a.tmps) then o.wp P a w next Q ∨ (o.asks P a w ∧ LetsOut Q) else next (a.put o.dst undef) w) : AO P n0 all (o :: rest) i K s := by
  intro hd ext β a w hs Q hq
  have ho : all[i]? = some o := by
    have h1 : (all.toList.drop i)[0]? = some o := by rw [hd]; rfl
    rw [List.getElem?_drop] at h1
    simpa using h1
  have hd' : all.toList.drop (i + 1) = rest := by
    rw [← List.tail_drop, hd]; rfl
  rw [List.length_cons, List.range'_succ, wpOps, ho]
  exact h ext β a w hs ho Q _ fun β' s' a' w' hao hs' hg => hao hd' ext β' a' w' hs' Q fun β2 s2 a2 w2 hk hs2 hg2 => hq β2 s2 a2 w2 hk hs2 (hg.trans hg2)

theorem AO_step {o : Oper} {rest : List Oper} {i : Nat} {s : St} {y : AVal} {h' : Heap} (hg : guardA all s.tmps o = some true) (hy : astep P s.tmps s.h s.nx o = some (y, h'))
    (h : AO P n0 all rest (i + 1) K ⟨putT s.tmps o.dst y, h', s.nx + 1⟩) : AO P n0 all (o :: rest) i K s := by
  refine AO_cons fun ext β a w hs ho Q next hnext => ?_
  rw [guard_ok hs hg, if_pos rfl]
  obtain ⟨r, v, w', β', h1, h2, h3, h4, h5, h6, h7⟩ := astep_ok hs (fun hp => Nat.lt_irrefl _ hp) hy
  have hpq : ∀ j, Lt s.nx j ∨ j = s.nx → Lt (s.nx + 1) j := fun j hj => by rcases hj with hj | hj <;> simp only [Lt] at * <;> omega
  have hs' : SIn n0 ext β' ⟨putT s.tmps o.dst y, h', s.nx + 1⟩ (a.put o.dst v) w' := (hs.put h3 (fun _ => .inl) h7 h4 h5 o.dst).mono hpq
  refine .inl ?_
  unfold Oper.wp
  rw [h1]
  rcases h2 with rfl | ⟨rfl, rfl⟩
  · exact hnext β' _ _ _ h hs' ⟨h6, h7.weaken fun j hj => Nat.lt_of_lt_of_le hj (by
      have := hs.low
      rcases Nat.lt_or_ge s.nx n0 with h8 | h8
      · exact absurd (this s.nx h8) (Nat.lt_irrefl _)
      · exact h8)⟩
  · exact hnext β' _ _ _ h hs' ⟨h6, h7.weaken fun j hj => Nat.lt_of_lt_of_le hj (by
      have := hs.low
      rcases Nat.lt_or_ge s.nx n0 with h8 | h8
      · exact absurd (this s.nx h8) (Nat.lt_irrefl _)
      · exact h8)⟩

theorem AO_skip {o : Oper} {rest : List Oper} {i : Nat} {s : St} (hg : guardA all s.tmps o = some false) (h : AO P n0 all rest (i + 1) K ⟨putT s.tmps o.dst (.tuple []), s.h, s.nx + 1⟩) : AO P n0 all (o :: rest) i K s := by
  refine AO_cons fun ext β a w hs ho Q next hnext => ?_
  rw [guard_ok hs hg, if_neg (by simp)]
  have hpq : ∀ j, Lt s.nx j → Lt (s.nx + 1) j := fun j hj => by simp only [Lt] at *; omega
  exact hnext β _ _ _ h ((hs.put hs.heap (fun _ => id) (Step.refl _ _) rel_undef (.tuple [] (by simp)) o.dst).mono hpq) (Goes.refl n0 ext β s.h w)

end

/-! ### Values, as they are when nobody writes any more -/

/-- A value, with what it names of some objects as it stands now. -/
inductive Frz (h : Heap) (S : Nat → Prop) : AVal → AVal → Prop
  | refl (x : AVal) : Frz h S x x
  | ref (id sz base len : Nat) (ex : Bool) (c esz : Nat) (rows rows' : List (List AVal)) (lim : Option Nat) (hS : S id) (hl : lk h id = some (.arr esz rows)) (hsz : rows.length = sz) (hlen : rows'.length = len) (hlim : lim = none ∨ (ex = true ∧ lim = some c))
      (hrow : ∀ (i : Nat) r r', rows[base + i]? = some r → rows'[i]? = some r' → r'.length = r.length)
      (hrel : ∀ (i : Nat) r r' (j : Nat) x x', rows[base + i]? = some r → rows'[i]? = some r' → r[j]? = some x → r'[j]? = some x' → Frz h S x x') : Frz h S (.ref id sz base len ex c) (.sl rows' lim)
  | ptr (id sz row col esz : Nat) (rows : List (List AVal)) (r cells : List AVal) (hS : S id) (hl : lk h id = some (.arr esz rows)) (hsz : rows.length = sz) (hr : rows[row]? = some r) (hlen : cells.length ≤ r.length - col)
      (hrel : ∀ (j : Nat) x x', r[col + j]? = some x → cells[j]? = some x' → Frz h S x x') : Frz h S (.ptr id sz row col) (.fp cells)
  | agg (xs ys : List AVal) (hlen : ys.length = xs.length) (hrel : ∀ (i : Nat) x y, xs[i]? = some x → ys[i]? = some y → Frz h S x y) : Frz h S (.agg xs) (.agg ys)
  | tuple (xs ys : List AVal) (hlen : ys.length = xs.length) (hrel : ∀ (i : Nat) x y, xs[i]? = some x → ys[i]? = some y → Frz h S x y) : Frz h S (.tuple xs) (.tuple ys)
  | func (fn : Fn) (xs ys us vs : List AVal) (hlen : ys.length = xs.length) (hlen' : vs.length = us.length) (hrel : ∀ (i : Nat) x y, xs[i]? = some x → ys[i]? = some y → Frz h S x y)
      (hrel' : ∀ (i : Nat) x y, us[i]? = some x → vs[i]? = some y → Frz h S x y) : Frz h S (.func fn xs us) (.func fn ys vs)
  | iface (t : TypeId) (x y : AVal) (hrel : Frz h S x y) : Frz h S (.iface t x) (.iface t y)
  | sl (rows rows' : List (List AVal)) (lim : Option Nat) (hlen : rows'.length = rows.length) (hrow : ∀ (i : Nat) r r', rows[i]? = some r → rows'[i]? = some r' → r'.length = r.length)
      (hrel : ∀ (i : Nat) r r' (j : Nat) x x', rows[i]? = some r → rows'[i]? = some r' → r[j]? = some x → r'[j]? = some x' → Frz h S x x') : Frz h S (.sl rows lim) (.sl rows' none)

theorem mem_get {α : Type} {l : List α} {x : α} (h : x ∈ l) : ∃ i : Nat, l[i]? = some x := List.getElem?_of_mem h

theorem VRel.nm_true {c : Cx} {x : AVal} {v : Value} (h : VRel c x v) : Nm (fun _ => True) x := by
  induction h with
  | junk v => exact .junk
  | bool b => exact .bool b
  | int k n => exact .int k n
  | str s => exact .str s
  | nilp => exact .nilp
  | sl rows lim a cap esz blk off vals hcap hlim hrow ha hcell hrel ih =>
    refine .sl rows lim fun r hr x hx => ?_
    obtain ⟨i, hi⟩ := mem_get hr
    obtain ⟨j, hj⟩ := mem_get hx
    exact ih i r j x hi hj
  | ref id sz base len ex c0 a cap hcap hlo hex hok => exact .ref _ _ _ _ _ _ trivial
  | ptr id sz row col ad hok => exact .ptr _ _ _ _ trivial
  | fp cells blk off vals hcell hrel ih =>
    refine .fp cells fun x hx => ?_
    obtain ⟨j, hj⟩ := mem_get hx
    exact ih j x hj
  | agg cells vs hlen hone hrel ih =>
    refine .agg cells fun x hx => ?_
    obtain ⟨i, hi⟩ := mem_get hx
    have hlt : i < vs.size := by rw [hlen]; exact (List.getElem?_eq_some_iff.1 hi).1
    exact ih i x _ hi (Array.getElem?_eq_getElem hlt)
  | tuple cells vs hlen hrel ih =>
    refine .tuple cells fun x hx => ?_
    obtain ⟨i, hi⟩ := mem_get hx
    have hlt : i < vs.size := by rw [hlen]; exact (List.getElem?_eq_some_iff.1 hi).1
    exact ih i x _ hi (Array.getElem?_eq_getElem hlt)
  | func fn first captured vs us hlen hlen' hrel hrel' ih ih' =>
    refine .func fn first captured (fun x hx => ?_) (fun x hx => ?_)
    · obtain ⟨i, hi⟩ := mem_get hx
      have hlt : i < vs.size := by rw [hlen]; exact (List.getElem?_eq_some_iff.1 hi).1
      exact ih i x _ hi (Array.getElem?_eq_getElem hlt)
    · obtain ⟨i, hi⟩ := mem_get hx
      have hlt : i < us.size := by rw [hlen']; exact (List.getElem?_eq_some_iff.1 hi).1
      exact ih' i x _ hi (Array.getElem?_eq_getElem hlt)
  | nilFunc => exact .nilFunc
  | iface t x v h ih => exact .iface t x ih
  | nilIface => exact .nilIface
  | nilmap => exact .nilmap
  | mapv id r hok => exact .mapv _ trivial

theorem Frz.ref0 {h : Heap} {S : Nat → Prop} {id sz base len : Nat} {ex : Bool} {c esz : Nat} {rows : List (List AVal)} (hS : S id) (hl : lk h id = some (.arr esz rows)) (hsz : rows.length = sz) (hb : base + len ≤ sz) :
    Frz h S (.ref id sz base len ex c) (.sl ((rows.drop base).take len) none) := by
  have hg : ∀ (i : Nat) r, ((rows.drop base).take len)[i]? = some r → rows[base + i]? = some r := fun i r hi => by
    rw [List.getElem?_take] at hi
    split at hi
    · rwa [List.getElem?_drop] at hi
    · cases hi
  refine .ref id sz base len ex c esz rows _ none hS hl hsz (by simp; omega) (.inl rfl) (fun i r r' h1 h2 => ?_) (fun i r r' j x x' h1 h2 h3 h4 => ?_)
  · rw [hg i r' h2] at h1; injection h1 with h1; rw [h1]
  · rw [hg i r' h2] at h1; injection h1 with h1; subst h1
    rw [h3] at h4; injection h4 with h4; subst h4
    exact .refl _

section
variable {ext : Nat → Prop} {β : Nat → Option Nat} {p : Nat → Prop} {h : Heap} {w : World}

theorem Frz.rel (hin : HIn ext β p h w) {S : Nat → Prop} {ext' : Nat → Prop} (hext : ∀ b, ext' b → ext b ∨ owns β h b) (hS : ∀ id o b, S id → lk h id = some o → β id = some b → ¬ ext' b) {x y : AVal} (f : Frz h S x y) :
    ∀ (v : Value), VRel (cx ext β h w) x v → VRel (cx ext' (fun _ => none) [] w) y v := by
  have hno : ∀ b, ¬ owns (fun _ => none) [] b := fun b ⟨_, _, h1, _⟩ => by simp [lk] at h1
  have st : Step (fun _ => True) (cx ext β h w) (cx ext' (fun _ => none) [] w) :=
    { cell := fun b o v h1 h2 => ⟨fun h3 => h1 (hext b (h3.resolve_right (hno b))), h2⟩
      shape := fun _ _ h => h
      arr := fun id _ esz rows h1 => by simp [cx, lk] at h1
      mp := fun id _ es h1 => by simp [cx, lk] at h1 }
  induction f with
  | refl x =>
    intro v hv
    exact hv.step st hv.nm_true
  | ref id sz base len ex c esz rows rows' lim hSid hl hsz hlen hlim hrow hrel ih =>
    intro v hv
    cases hv with | ref _ _ _ _ _ _ a cap hcap hlo hex hok =>
    obtain ⟨_, h2⟩ := hok esz rows hl
    obtain ⟨h3, h4⟩ := h2 hsz.symm
    obtain ⟨hrows, hblk⟩ := hin.ob id _ hl
    subst hlen
    have hlim' : ∀ l, lim = some l → cap = l := fun l hl' => by
      rcases hlim with h5 | ⟨h5, h6⟩
      · rw [h5] at hl'; cases hl'
      · rw [h6] at hl'; injection hl' with hl'; rw [← hl']; exact hex h5
    rcases h4 with h0 | ⟨b, hb, ha, e, n, hsh, hn⟩
    · have h00 : rows'.length = 0 := by omega
      have hnil : rows' = [] := List.length_eq_zero_iff.1 h00
      subst hnil
      exact .sl [] lim a cap 0 0 0 (fun _ _ => .nilFunc) (by simp) hlim' (by simp) (by simp) (by simp) (by simp)
    · have hb' : (cx ext β h w).β id = some b := hb
      rw [hb'] at hblk
      obtain ⟨cs, e', h5, h6, h7⟩ := hblk
      have h5' : w.heap[b]? = some (.cells cs e' (0, 0)) := h5
      have hlt : ∀ (i : Nat) r', rows'[i]? = some r' → ∃ r, rows[base + i]? = some r := fun i r' hi => by
        have := (List.getElem?_eq_some_iff.1 hi).1
        exact ⟨rows[base + i]'(by omega), List.getElem?_eq_getElem _⟩
      have hcellv : ∀ (i : Nat) r' (j : Nat) x', rows'[i]? = some r' → r'[j]? = some x' → ∃ r x v, rows[base + i]? = some r ∧ r[j]? = some x ∧ cs[(base + i) * esz + j]? = some v ∧ v.oneCell' = true ∧ VRel (cx ext β h w) x v := fun i r' j x' hi hj => by
        obtain ⟨r, hr⟩ := hlt i r' hi
        have hjl : j < r.length := by rw [← hrow i r r' hr hi]; exact (List.getElem?_eq_some_iff.1 hj).1
        obtain ⟨v, h8, h9, h10⟩ := h7 (base + i) r j r[j] hr (List.getElem?_eq_getElem hjl)
        exact ⟨r, r[j], v, hr, List.getElem?_eq_getElem hjl, h8, h9, h10⟩
      refine .sl rows' lim a cap esz b (base * esz) (fun i j => (cs[(base + i) * esz + j]?).getD undef) hcap hlim' (fun r' hr' => ?_) (fun _ => ha) (fun i r' j x' hi hj => ?_) (fun i r' j x' hi hj => ?_)
      · obtain ⟨i, hi⟩ := List.getElem?_of_mem hr'
        obtain ⟨r, hr⟩ := hlt i r' hi
        rw [hrow i r r' hr hi]
        exact hrows r (List.mem_of_getElem? hr)
      · obtain ⟨r, x, v, h8, h9, h10, h11, h12⟩ := hcellv i r' j x' hi hj
        refine ⟨fun h13 => hS id _ b hSid hl hb (h13.resolve_right (hno b)), ?_, ?_⟩
        · show w.cell? ⟨b, base * esz + (i * esz + j), none⟩ = some _
          have e1 : base * esz + (i * esz + j) = (base + i) * esz + j := by rw [Nat.add_mul]; omega
          simp only [World.cell?, h5', e1, h10]
          rfl
        · rw [h10]; exact h11
      · obtain ⟨r, x, v, h8, h9, h10, h11, h12⟩ := hcellv i r' j x' hi hj
        rw [h10]
        exact ih i r r' j x x' h8 hi h9 hj _ h12
  | ptr id sz row col esz rows r cells hSid hl hsz hr hlen hrel ih =>
    intro v hv
    cases hv with | ptr _ _ _ _ ad hok =>
    obtain ⟨_, h2⟩ := hok esz rows hl
    obtain ⟨b, hb, rfl⟩ := h2 hsz.symm
    obtain ⟨hrows, hblk⟩ := hin.ob id _ hl
    have hb' : (cx ext β h w).β id = some b := hb
    rw [hb'] at hblk
    obtain ⟨cs, e', h5, h6, h7⟩ := hblk
    have h5' : w.heap[b]? = some (.cells cs e' (0, 0)) := h5
    have hcellv : ∀ (j : Nat) x', cells[j]? = some x' → ∃ x v, r[col + j]? = some x ∧ cs[row * esz + (col + j)]? = some v ∧ v.oneCell' = true ∧ VRel (cx ext β h w) x v := fun j x' hj => by
      have hjl : col + j < r.length := by have := (List.getElem?_eq_some_iff.1 hj).1; omega
      obtain ⟨v, h8, h9, h10⟩ := h7 row r (col + j) r[col + j] hr (List.getElem?_eq_getElem hjl)
      exact ⟨r[col + j], v, List.getElem?_eq_getElem hjl, h8, h9, h10⟩
    refine .fp cells b (row * esz + col) (fun j => (cs[row * esz + (col + j)]?).getD undef) (fun j x' hj => ?_) (fun j x' hj => ?_)
    · obtain ⟨x, v, h8, h10, h11, h12⟩ := hcellv j x' hj
      refine ⟨fun h13 => hS id _ b hSid hl hb (h13.resolve_right (hno b)), ?_, ?_⟩
      · show w.cell? ⟨b, row * esz + col + j, none⟩ = some _
        simp only [World.cell?, h5', Nat.add_assoc, h10]
        rfl
      · rw [h10]; exact h11
    · obtain ⟨x, v, h8, h10, h11, h12⟩ := hcellv j x' hj
      rw [h10]
      exact ih j x x' h8 hj _ h12
  | agg xs ys hlen hrel ih =>
    intro v hv
    cases hv with | agg _ vs l o r =>
    refine .agg ys vs (by rw [l, hlen]) o fun i y u hy hu => ?_
    have hlt : i < xs.length := by rw [← hlen]; exact (List.getElem?_eq_some_iff.1 hy).1
    exact ih i xs[i] y (List.getElem?_eq_getElem hlt) hy _ (r i _ u (List.getElem?_eq_getElem hlt) hu)
  | tuple xs ys hlen hrel ih =>
    intro v hv
    cases hv with | tuple _ vs l r =>
    refine .tuple ys vs (by rw [l, hlen]) fun i y u hy hu => ?_
    have hlt : i < xs.length := by rw [← hlen]; exact (List.getElem?_eq_some_iff.1 hy).1
    exact ih i xs[i] y (List.getElem?_eq_getElem hlt) hy _ (r i _ u (List.getElem?_eq_getElem hlt) hu)
  | func fn xs ys us vs hlen hlen' hrel hrel' ih ih' =>
    intro v hv
    cases hv with | func _ _ _ f1 f2 l l' r r' =>
    refine .func fn ys vs f1 f2 (by rw [l, hlen]) (by rw [l', hlen']) (fun i y u hy hu => ?_) (fun i y u hy hu => ?_)
    · have hlt : i < xs.length := by rw [← hlen]; exact (List.getElem?_eq_some_iff.1 hy).1
      exact ih i xs[i] y (List.getElem?_eq_getElem hlt) hy _ (r i _ u (List.getElem?_eq_getElem hlt) hu)
    · have hlt : i < us.length := by rw [← hlen']; exact (List.getElem?_eq_some_iff.1 hy).1
      exact ih' i us[i] y (List.getElem?_eq_getElem hlt) hy _ (r' i _ u (List.getElem?_eq_getElem hlt) hu)
  | iface t x y hrel ih =>
    intro v hv
    cases hv with | iface _ _ u hu =>
    exact .iface t y u (ih u hu)
  | sl rows rows' lim hlen hrow hrel ih =>
    intro v hv
    cases hv with | sl _ _ a cap esz blk off vals hcap hlim hr ha hcell hrel' =>
    have hg : ∀ (i : Nat) r', rows'[i]? = some r' → ∃ r, rows[i]? = some r ∧ r'.length = r.length := fun i r' hi => by
      have hlt : i < rows.length := by rw [← hlen]; exact (List.getElem?_eq_some_iff.1 hi).1
      exact ⟨rows[i], List.getElem?_eq_getElem hlt, hrow i _ r' (List.getElem?_eq_getElem hlt) hi⟩
    have hx : ∀ (i : Nat) r' (j : Nat) x', rows'[i]? = some r' → r'[j]? = some x' → ∃ r x, rows[i]? = some r ∧ r[j]? = some x := fun i r' j x' hi hj => by
      obtain ⟨r, h1, h2⟩ := hg i r' hi
      have hlt : j < r.length := by rw [← h2]; exact (List.getElem?_eq_some_iff.1 hj).1
      exact ⟨r, r[j], h1, List.getElem?_eq_getElem hlt⟩
    rw [← hlen]
    refine .sl rows' none a cap esz blk off vals (by omega) (fun l hl => by cases hl) (fun r' hr' => ?_) (fun hne => ha ?_) (fun i r' j x' hi hj => ?_) (fun i r' j x' hi hj => ?_)
    · obtain ⟨i, hi⟩ := mem_get hr'
      obtain ⟨r, h1, h2⟩ := hg i r' hi
      rw [h2]
      exact hr r (List.mem_of_getElem? h1)
    · intro h0
      subst h0
      exact hne (List.length_eq_zero_iff.1 hlen)
    · obtain ⟨r, x, h1, h2⟩ := hx i r' j x' hi hj
      obtain ⟨h3, h4, h5⟩ := hcell i r j x h1 h2
      exact ⟨(st.cell _ _ _ h3 h4).1, h4, h5⟩
    · obtain ⟨r, x, h1, h2⟩ := hx i r' j x' hi hj
      exact ih i r r' j x x' h1 hi h2 hj _ (hrel' i r j x h1 h2)

end
end Go.AM
end

section
namespace Go.AM
open Go

def Callable (P : Program) (g : FuncId) : Prop := ∃ fn, P.funcs[g]? = some fn ∧ (fn.name == "runtime.NumGoroutine") = false ∧ fn.body.isNone = false

theorem run_callFunc {P : Program} {g : FuncId} (hc : Callable P g) (args : Array Value) (w : World) : (callFunc g args).run P w = .ok (.enter g args) w := by
  obtain ⟨fn, h1, h2, h3⟩ := hc
  simp only [callFunc, Sem.run_bind, run_program, Result.andThen_ok, h1, h2, h3, Bool.false_eq_true, if_false]
  rfl

/-- A function is called, of values that nobody writes: it returns one that is so, too, and writes nothing that was there. -/
structure PCall (P : Program) (g : FuncId) (args : List AVal) (Q : AVal → Prop) : Prop where
  callable : Callable P g
  run : ∀ (ext : Nat → Prop) (w : World) (vs : Array Value), (∀ b, ext b → b < w.heap.size) → vs.size = args.length →
    (∀ (k : Nat) x v, args[k]? = some x → vs[k]? = some v → VRel (cx ext (fun _ => none) [] w) x v) →
    Calls P g vs w fun e w' => ∃ v r, e = .returned v ∧ Q r ∧ Fz r ∧ VRel (cx ext (fun _ => none) [] w') r v ∧ Evo (fun _ => False) w (fun _ => False) w'

theorem PCall.mono {P : Program} {g : FuncId} {args : List AVal} {Q Q' : AVal → Prop} (h : PCall P g args Q) (hq : ∀ r, Q r → Q' r) : PCall P g args Q' :=
  ⟨h.callable, fun ext w vs h1 h2 h3 => (h.run ext w vs h1 h2 h3).mono fun _ _ ⟨v, r, a, b, c, d⟩ => ⟨v, r, a, hq r b, c, d⟩⟩

def resA (P : Program) (s : St) : ResultVar → Option AVal
  | .tmp t => some (s.tmps.getD t .junk)
  | .cell a t => aload P s.h t (s.tmps.getD a .junk)

def resAs (P : Program) (s : St) : List ResultVar → Option (List AVal)
  | [] => some []
  | r :: rs => match resA P s r, resAs P s rs with | some x, some xs => some (x :: xs) | _, _ => none

def packA : List AVal → AVal
  | [x] => x
  | xs => .tuple xs

/-- What a function's end has to be. -/
def retQ (P : Program) (rs : List ResultVar) (Q : AVal → Prop) : Exit → St → Prop
  | .normal, s => ∃ xs r, resAs P s rs = some xs ∧ Frz s.h (fun _ => True) (packA xs) r ∧ Fz r ∧ Q r
  | .ret, s => ∃ xs r, resAs P s rs = some xs ∧ Frz s.h (fun _ => True) (packA xs) r ∧ Fz r ∧ Q r
  | _, _ => False

/-- The machine's look at a result. -/
def resS (tmps : Array Value) : ResultVar → Sem Value
  | .tmp t => pure (tmps.getD t undef)
  | .cell a t => do loadVar t (← asAddr (tmps.getD a undef))

section
variable {P : Program} {n0 : Nat} {ext : Nat → Prop} {β : Nat → Option Nat}

theorem resA_ok {s : St} {a : Act} {w : World} (i : SIn n0 ext β s a w) {r : ResultVar} {x : AVal} (h : resA P s r = some x) :
    ∃ v, (resS a.tmps r).run P w = .ok v w ∧ VRel (cx ext β s.h w) x v := by
  cases r with
  | tmp t =>
    simp only [resA] at h
    injection h with h
    subst h
    exact ⟨_, rfl, i.ev (.tmp t)⟩
  | cell b t =>
    simp only [resA] at h
    obtain ⟨u, h1, h2, _⟩ := aload_ok i.heap (i.ev (.tmp b)) (i.nm_ev (.tmp b)) h
    refine ⟨u, ?_, h2⟩
    have h3 : Act.eval a (.tmp b) = a.tmps.getD b undef := rfl
    rw [h3] at h1
    show (asAddr (a.tmps.getD b undef) >>= fun ad => loadVar t ad).run P w = _
    revert h1
    generalize a.tmps.getD b undef = v
    intro h1
    cases v <;> simp [Instr.loadAt, Instr.sureAddr] at h1
    rename_i ad
    cases ad <;> simp at h1
    simpa [asAddr] using h1

theorem resAs_ok {s : St} {a : Act} {w : World} (i : SIn n0 ext β s a w) : ∀ {rs : List ResultVar} {xs : List AVal}, resAs P s rs = some xs →
    ∃ vs : List Value, (rs.mapM (resS a.tmps)).run P w = .ok vs w ∧ vs.length = xs.length ∧
      ∀ (k : Nat) x v, xs[k]? = some x → vs[k]? = some v → VRel (cx ext β s.h w) x v
  | [], xs, h => by simp [resAs] at h; subst h; exact ⟨[], by simp, rfl, by simp⟩
  | r :: rs, xs, h => by
    simp only [resAs] at h
    split at h
    case h_2 => cases h
    rename_i x xs' h1 h2
    injection h with h
    subst h
    obtain ⟨v, h3, h4⟩ := resA_ok i h1
    obtain ⟨vs, h5, h6, h7⟩ := resAs_ok i h2
    refine ⟨v :: vs, ?_, by simp [h6], fun k y u hy hu => ?_⟩
    · rw [List.mapM_cons]
      simp only [Sem.run_bind]
      rw [h3]
      simp only [Result.andThen_ok]
      rw [h5]
      simp
    · cases k with
      | zero => simp at hy hu; exact hy ▸ hu ▸ h4
      | succ k => exact h7 k y u (by simpa using hy) (by simpa using hu)

theorem results_ok {s : St} {a : Act} {w : World} (i : SIn n0 ext β s a w) {fn : Func} {xs : List AVal} (h : resAs P s fn.results.toList = some xs) :
    ∃ v, (results fn a.tmps).run P w = .ok v w ∧ VRel (cx ext β s.h w) (packA xs) v := by
  obtain ⟨vs, h1, h2, h3⟩ := resAs_ok i h
  have hr : (fn.results.mapM (resS a.tmps)).run P w = .ok vs.toArray w := by
    rw [Array.mapM_eq_mapM_toList, Sem.run_map, h1]
    rfl
  refine ⟨if hh : vs.toArray.size = 1 then vs.toArray[0] else .tuple vs.toArray, ?_, ?_⟩
  · unfold results
    simp only [Sem.run_bind]
    refine (congrArg (fun r => Result.andThen r _) hr).trans ?_
    simp
  · match xs, vs, h2 with
    | [x], [v], _ => simpa [packA] using h3 0 x v rfl rfl
    | [], [], _ => exact .tuple _ _ (by simp) (by simp)
    | x :: y :: xs, v :: u :: vs, h2 =>
      have : ¬ ((v :: u :: vs).toArray.size = 1) := by simp
      rw [dif_neg this]
      exact .tuple _ _ (by simpa using h2) fun k x v hx hv => h3 k x v hx (by simpa using hv)

/-- A function, by its body. -/
theorem PCall_intro {g : FuncId} {args : List AVal} {Q : AVal → Prop} {fn : Func} {c : Code} (hf : P.funcs[g]? = some fn) (hb : fn.body = some c) (hname : (fn.name == "runtime.NumGoroutine") = false)
    (hargs : ∀ x, x ∈ args → Fz x) (h : AWP P 0 c (retQ P fn.results.toList Q) ⟨args ++ List.replicate (fn.ntmps - args.length) .junk, [], 0⟩) : PCall P g args Q := by
  refine ⟨⟨fn, hf, hname, by rw [hb]; rfl⟩, fun ext w vs hext hl hr => ?_⟩
  have hno : ∀ b, ¬ owns (fun _ => none) [] b := fun b ⟨_, _, h1, _⟩ => by simp [lk] at h1
  have i : SIn 0 ext (fun _ => none) ⟨args ++ List.replicate (fn.ntmps - args.length) .junk, [], 0⟩ { tmps := vs ++ Array.replicate (fn.ntmps - vs.size) undef, defers := [] } w := by
    refine ⟨⟨fun id o ho => by simp [lk] at ho, fun id o ho => by simp [lk] at ho, fun id id' o o' b h1 => by simp [lk] at h1, fun b hb => ⟨hext b hb, hno b⟩⟩, by simp [hl], fun k x v hx hv => ?_, fun x hx => ?_, rfl, fun j hj => hj⟩
    · by_cases hk : k < args.length
      · rw [List.getElem?_append_left hk] at hx
        rw [Array.getElem?_append_left (by rw [hl]; exact hk)] at hv
        exact hr k x v hx hv
      · rw [List.getElem?_append_right (by omega), List.getElem?_replicate] at hx
        split at hx
        · injection hx with hx; exact hx ▸ .junk v
        · cases hx
    · rcases List.mem_append.1 hx with hx | hx
      · exact Fz.nm (hargs x hx) _
      · rw [List.mem_replicate] at hx; rw [hx.2]; exact .junk
  refine calls_of_wp hf hb (wp_mono (h ext (fun _ => none) _ w i) ?_)
  rintro e a' w' ⟨β', s', q, i', gs⟩
  have hfin : (∃ xs r, resAs P s' fn.results.toList = some xs ∧ Frz s'.h (fun _ => True) (packA xs) r ∧ Fz r ∧ Q r) →
      a'.defers = [] ∧ ∃ v, (results fn a'.tmps).run P w' = .ok v w' ∧ ∃ v' r, Ending.returned v = .returned v' ∧ Q r ∧ Fz r ∧ VRel (cx ext (fun _ => none) [] w') r v' ∧ Evo (fun _ => False) w (fun _ => False) w' := by
    rintro ⟨xs, r, h1, h2, h3, h4⟩
    obtain ⟨v, h5, h6⟩ := results_ok i' h1
    refine ⟨i'.defers, v, h5, v, r, rfl, h4, h3, Frz.rel i'.heap (fun b hb => .inl hb) (fun id o b _ hl hb hx => (i'.heap.ext b hx).2 ⟨id, o, hl, hb⟩) h2 v h6, ?_⟩
    exact ⟨gs.evo.size, fun b hb _ => gs.evo.keep b hb (hno b), fun _ _ h => h, gs.evo.shape, gs.evo.rest⟩
  cases e with
  | normal => exact hfin q
  | ret => exact hfin q
  | exit id => exact q.elim
  | goto l => exact q.elim
  | panic c => exact q.elim
  | outgrown => exact q.elim

end

/-- A function is called, of values that nobody writes: it hands back a value that names one new object. 'x': the value, by the object's number. -/
structure PNew (P : Program) (g : FuncId) (args : List AVal) (x : Nat → AVal) (ob : Ob) : Prop where
  callable : Callable P g
  run : ∀ (ext : Nat → Prop) (β : Nat → Option Nat) (p : Nat → Prop) (h : Heap) (w : World) (vs : Array Value) (fresh : Nat), HIn ext β p h w → ¬ p fresh → vs.size = args.length →
    (∀ (k : Nat) x v, args[k]? = some x → vs[k]? = some v → VRel (cx (fun b => ext b ∨ owns β h b) (fun _ => none) [] w) x v) →
    Calls P g vs w fun e w' => ∃ v β', e = .returned v ∧ HIn ext β' (fun j => p j ∨ j = fresh) ((fresh, ob) :: h) w' ∧ VRel (cx ext β' ((fresh, ob) :: h) w') (x fresh) v ∧ Nm (fun j => p j ∨ j = fresh) (x fresh) ∧
      Evo (owns β h) w (owns β' ((fresh, ob) :: h)) w' ∧ Step p (cx ext β h w) (cx ext β' ((fresh, ob) :: h) w')

/-! ### Calls in a row of operations -/

section
variable {P : Program} {n0 : Nat} {all : Array Oper} {K : St → Prop}

theorem HIn.lt {ext : Nat → Prop} {β : Nat → Option Nat} {p : Nat → Prop} {h : Heap} {w : World} (hin : HIn ext β p h w) {b : Nat} (hb : owns β h b) : b < w.heap.size := by
  obtain ⟨j, x, hj, hc⟩ := hb
  have := hin.ob j x hj
  cases x with
  | arr esz rows =>
    obtain ⟨_, h2⟩ := this
    have hc' : (cx ext β h w).β j = some b := hc
    rw [hc'] at h2
    obtain ⟨cs, e, h3, _⟩ := h2
    exact (Array.getElem?_eq_some_iff.1 h3).1
  | mp es =>
    obtain ⟨b', ms, h1, h2, _⟩ := this
    have : b' = b := by have := h1.symm.trans hc; simpa using this
    exact this ▸ (Array.getElem?_eq_some_iff.1 h2).1

/-- Blocks that others write stay as they are. -/
theorem HIn.evo {ext : Nat → Prop} {β : Nat → Option Nat} {p : Nat → Prop} {h : Heap} {w w' : World} (hin : HIn ext β p h w) (hev : Evo (fun _ => False) w (fun _ => False) w') :
    HIn ext β p h w' ∧ Evo (owns β h) w (owns β h) w' ∧ ∀ q, Step q (cx ext β h w) (cx ext β h w') := by
  have st : ∀ q, Step q (cx ext β h w) (cx ext β h w') := fun q =>
    ⟨fun b o v h1 h2 => ⟨h1, (cell_of_heap (hev.keep b (cell_lt h2) (fun h => h)) o).trans h2⟩, hev.shape, fun _ _ _ rows h => ⟨rows, h, Nat.le_refl _, fun _ => rfl⟩, fun _ _ es h => ⟨es, h, rfl⟩⟩
  exact ⟨⟨fun id o ho => ObIn.step (st p) rfl (fun b hb => hev.keep b (hin.lt ⟨id, o, ho, hb⟩) (fun h => h)) (hin.nm id o ho).2 (hin.ob id o ho), hin.nm, hin.inj, fun b hb => ⟨Nat.lt_of_lt_of_le (hin.ext b hb).1 hev.size, (hin.ext b hb).2⟩⟩,
    ⟨hev.size, fun b hb _ => hev.keep b hb (fun h => h), fun _ _ h => h, hev.shape, hev.rest⟩, st⟩

/-- A value that holds no address. -/
def Flat (x : AVal) : Prop := ∀ c d v, VRel c x v → VRel d x v

/-- The operands of a call, and its target. -/
def target (tmps : List AVal) (c : Call) : Option (FuncId × List AVal) :=
  match c.callee with
  | .value f => match ev tmps f with | .func (.func g) first captured => some (g, first ++ evs tmps c.args ++ captured) | _ => none
  | _ => none

theorem target_ok {ext : Nat → Prop} {β : Nat → Option Nat} {p : Nat → Prop} {tmps : List AVal} {h : Heap} {a : Act} {w : World} (i : SInP n0 ext β p tmps h a w) {o : Oper} {c : Call} (ho : o.op = .call c) {g : FuncId} {args : List AVal}
    (ht : target tmps c = some (g, args)) (hc : Callable P g) : ∃ vs : Array Value, (execOp a.eval o).run P w = .ok (.enter g vs) w ∧ vs.size = args.length ∧
      ∀ (k : Nat) x v, args[k]? = some x → vs[k]? = some v → VRel (cx ext β h w) x v := by
  unfold target at ht
  split at ht
  case h_2 => cases ht
  rename_i f hf
  split at ht
  case h_2 => cases ht
  rename_i g' first captured hev
  injection ht with ht
  injection ht with e1 e2
  subst e1 e2
  have hv := i.ev f
  rw [hev] at hv
  generalize hz : a.eval f = z at hv
  cases hv with | func _ _ _ vs us l l' r r' =>
  obtain ⟨e1, e2, _⟩ := evs_rel i c.args
  refine ⟨vs ++ c.args.map a.eval ++ us, ?_, ?_, fun k x v hx hv => ?_⟩
  · have hex : execOp a.eval o = (do let d ← resolve a.eval c o.type; invoke d.target d.args) := by simp only [execOp, ho]
    rw [hex]
    simp only [resolve, hf, hz, Deferred.ofValue, Sem.run_bind, Sem.run_pure, Result.andThen_ok, invoke]
    exact run_callFunc hc _ w
  · rw [Array.size_append, Array.size_append, e1, l, l']; simp; omega
  · by_cases h1 : k < first.length
    · rw [List.append_assoc, List.getElem?_append_left h1] at hx
      rw [Array.append_assoc, Array.getElem?_append_left (by rw [l]; exact h1)] at hv
      exact r k x v hx hv
    · rw [List.append_assoc, List.getElem?_append_right (by omega)] at hx
      rw [Array.append_assoc, Array.getElem?_append_right (by rw [l]; omega), l] at hv
      by_cases h2 : k - first.length < (evs tmps c.args).length
      · rw [List.getElem?_append_left h2] at hx
        rw [Array.getElem?_append_left (by rw [e1]; exact h2)] at hv
        exact e2 _ x v hx hv
      · rw [List.getElem?_append_right (by omega)] at hx
        rw [Array.getElem?_append_right (by rw [e1]; omega), e1] at hv
        exact r' _ x v hx hv

/-- A call, of values some of which stand in objects: what is handed on is frozen, those objects are given away. -/
theorem AO_call {o : Oper} {rest : List Oper} {i : Nat} {s : St} {c : Call} {g : FuncId} {args args' : List AVal} {Q : AVal → Prop} {h2 : Heap} (hg : guardA all s.tmps o = some true) (ho : o.op = .call c) (ht : target s.tmps c = some (g, args))
    (hp : PCall P g args' Q) (hlen : args'.length = args.length) (hh : ∀ id ob, lk h2 id = some ob → lk s.h id = some ob)
    (hf : ∀ (k : Nat) x y, args[k]? = some x → args'[k]? = some y → Frz s.h (fun id => lk h2 id = none) x y)
    (h : ∀ r, Q r → AO P n0 all rest (i + 1) K ⟨putT s.tmps o.dst r, h2, s.nx + 1⟩) : AO P n0 all (o :: rest) i K s := by
  refine AO_cons fun ext β a w hs hoo Q' next hnext => ?_
  rw [guard_ok hs hg, if_pos rfl]
  refine .inl ?_
  obtain ⟨vs, hrun, hsz, hrel⟩ := target_ok hs ho ht hp.callable
  unfold Oper.wp
  rw [hrun, Oper.upon_enter]
  -- what stays is given up for the time
  have hw : Weak n0 s ⟨s.tmps, h2, s.nx⟩ := ⟨rfl, fun k x hx => .inr hx, hh, hs.nm, fun id ob ho => hs.heap.nm id ob (hh id ob ho), by
    rcases Nat.lt_or_ge s.nx n0 with h8 | h8
    · exact absurd (hs.low s.nx h8) (Nat.lt_irrefl _)
    · exact h8⟩
  obtain ⟨hs2, hg2⟩ := hs.weak hw
  have hown2 : ∀ b, owns β h2 b → owns β s.h b := fun b ⟨id, ob, h1, h3⟩ => ⟨id, ob, hh id ob h1, h3⟩
  have hargs : ∀ (k : Nat) y v, args'[k]? = some y → vs[k]? = some v → VRel (cx (fun b => ext b ∨ owns β h2 b) (fun _ => none) [] w) y v := fun k y v hy hv => by
    have hlt : k < args.length := by rw [← hlen]; exact (List.getElem?_eq_some_iff.1 hy).1
    refine Frz.rel hs.heap (fun b hb => hb.imp (fun h => h) (hown2 b)) (fun id ob b hS hl hb hx => ?_) (hf k args[k] y (List.getElem?_eq_getElem hlt) hy) v (hrel k _ v (List.getElem?_eq_getElem hlt) hv)
    rcases hx with hx | ⟨id', ob', h3, h4⟩
    · exact (hs.heap.ext b hx).2 ⟨id, ob, hl, hb⟩
    · have : id = id' := hs.heap.inj id id' ob ob' b hl (hh id' ob' h3) hb h4
      subst this
      rw [hS] at h3; cases h3
  refine (hp.run (fun b => ext b ∨ owns β h2 b) w vs (fun b hb => hb.elim (fun h => (hs.heap.ext b h).1) (fun h => hs2.heap.lt h)) (by rw [hsz, hlen]) hargs).mono ?_
  rintro e w' ⟨v, r, rfl, hq, hfz, hv, hev⟩
  obtain ⟨k1, k2, k3⟩ := hs2.heap.evo hev
  have hno : ∀ b, ¬ owns (fun _ => none) [] b := fun b ⟨_, _, h1, _⟩ => by simp [lk] at h1
  have st : Step (fun _ => False) (cx (fun b => ext b ∨ owns β h2 b) (fun _ => none) [] w') (cx ext β h2 w') :=
    ⟨fun b o v h1 h4 => ⟨fun h3 => h1 (Or.inl h3), h4⟩, fun _ _ h => h, fun _ h => h.elim, fun _ h => h.elim⟩
  have hv' : VRel (cx ext β h2 w') r v := hv.step st hfz
  have hpq : ∀ j, Lt s.nx j → Lt (s.nx + 1) j := fun j hj => by simp only [Lt] at *; omega
  have hs3 : SIn n0 ext β ⟨putT s.tmps o.dst r, h2, s.nx + 1⟩ (a.put o.dst v) w' := (hs2.put k1 (fun _ => id) (k3 _) hv' (Fz.nm hfz _) o.dst).mono hpq
  exact hnext β _ _ _ (h r hq) hs3 (hg2.trans ⟨k2, k3 _⟩)

/-- A call that hands back numbers, texts, truths: nothing is given away. -/
theorem AO_callF {o : Oper} {rest : List Oper} {i : Nat} {s : St} {c : Call} {g : FuncId} {args args' : List AVal} {Q : AVal → Prop} (hg : guardA all s.tmps o = some true) (ho : o.op = .call c) (ht : target s.tmps c = some (g, args))
    (hp : PCall P g args' Q) (hlen : args'.length = args.length) (hf : ∀ (k : Nat) x y, args[k]? = some x → args'[k]? = some y → Frz s.h (fun _ => True) x y)
    (h : ∀ r, Q r → Flat r ∧ AO P n0 all rest (i + 1) K ⟨putT s.tmps o.dst r, s.h, s.nx + 1⟩) : AO P n0 all (o :: rest) i K s := by
  refine AO_cons fun ext β a w hs hoo Q' next hnext => ?_
  rw [guard_ok hs hg, if_pos rfl]
  refine .inl ?_
  obtain ⟨vs, hrun, hsz, hrel⟩ := target_ok hs ho ht hp.callable
  unfold Oper.wp
  rw [hrun, Oper.upon_enter]
  have hargs : ∀ (k : Nat) y v, args'[k]? = some y → vs[k]? = some v → VRel (cx ext (fun _ => none) [] w) y v := fun k y v hy hv => by
    have hlt : k < args.length := by rw [← hlen]; exact (List.getElem?_eq_some_iff.1 hy).1
    exact Frz.rel hs.heap (fun b hb => .inl hb) (fun id ob b hS hl hb hx => (hs.heap.ext b hx).2 ⟨id, ob, hl, hb⟩) (hf k args[k] y (List.getElem?_eq_getElem hlt) hy) v (hrel k _ v (List.getElem?_eq_getElem hlt) hv)
  refine (hp.run ext w vs (fun b hb => (hs.heap.ext b hb).1) (by rw [hsz, hlen]) hargs).mono ?_
  rintro e w' ⟨v, r, rfl, hq, hfz, hv, hev⟩
  obtain ⟨k1, k2, k3⟩ := hs.heap.evo hev
  obtain ⟨hflat, hao⟩ := h r hq
  have hv' : VRel (cx ext β s.h w') r v := hflat _ _ v hv
  have hpq : ∀ j, Lt s.nx j → Lt (s.nx + 1) j := fun j hj => by simp only [Lt] at *; omega
  have hs3 : SIn n0 ext β ⟨putT s.tmps o.dst r, s.h, s.nx + 1⟩ (a.put o.dst v) w' := (hs.put k1 (fun _ => id) (k3 _) hv' (Fz.nm hfz _) o.dst).mono hpq
  exact hnext β _ _ _ hao hs3 ⟨k2, k3 _⟩

theorem Flat.bool (b : Bool) : Flat (.bool b) := fun _ _ _ h => by cases h; exact .bool b
theorem Flat.int (k : IntKind) (n : Int) : Flat (.int k n) := fun _ _ _ h => by cases h; exact .int k n
theorem Flat.str (s : ByteArray) : Flat (.str s) := fun _ _ _ h => by cases h; exact .str s

theorem Flat.tuple {xs : List AVal} (h : ∀ x, x ∈ xs → Flat x) : Flat (.tuple xs) := fun _ _ _ hv => by
  cases hv with | tuple _ vs l r =>
  exact .tuple xs vs l fun i x v hx hu => h x (List.mem_of_getElem? hx) _ _ v (r i x v hx hu)

theorem Flat.agg {xs : List AVal} (h : ∀ x, x ∈ xs → Flat x) : Flat (.agg xs) := fun _ _ _ hv => by
  cases hv with | agg _ vs l o r =>
  exact .agg xs vs l o fun i x v hx hu => h x (List.mem_of_getElem? hx) _ _ v (r i x v hx hu)

/-- A row of operations that is done in the order of the text. -/
theorem AWP_region {id : Nat} {ops : Array Oper} {Q : Exit → St → Prop} {s : St} (h : AO P n0 ops ops.toList 0 (fun s => Q .normal s) s) : AWP P n0 (.region id ops false) Q s := by
  intro ext β a w hs
  refine wp_region ?_
  rw [List.range_eq_range']
  have := h (by simp) ext β a w hs (Post n0 ext β s.h w Q) fun β' s' a' w' hk hs' hg => ⟨β', s', hk, hs', hg⟩
  simpa using this

end
end Go.AM
end

section
namespace Go.AM
open Go

/-- What is still to be done. -/
inductive It where
  | code (c : Code)
  | blk (id : Nat)

def unw (P : Program) (n0 : Nat) : List It → (Exit → St → Prop) → Exit → St → Prop
  | [], Q => Q
  | .code c :: k, Q => thenQ (AWP P n0 c (unw P n0 k Q)) (unw P n0 k Q)
  | .blk id :: k, Q => blockQ id (unw P n0 k Q)

section
variable {P : Program} {n0 : Nat} {Q : Exit → St → Prop} {s : St} {k : List It}

theorem W_seq {x y : Code} (h : AWP P n0 x (unw P n0 (.code y :: k) Q) s) : AWP P n0 (x.seq y) (unw P n0 k Q) s := AWP_seq h
theorem W_block {id : Nat} {c : Code} (h : AWP P n0 c (unw P n0 (.blk id :: k) Q) s) : AWP P n0 (.block id c) (unw P n0 k Q) s := AWP_block h
theorem W_skip (h : unw P n0 k Q .normal s) : AWP P n0 .skip (unw P n0 k Q) s := AWP_skip h
theorem W_exit {id : Nat} (h : unw P n0 k Q (.exit id) s) : AWP P n0 (.exit id) (unw P n0 k Q) s := AWP_exit h
theorem W_ret (h : unw P n0 k Q .ret s) : AWP P n0 .ret (unw P n0 k Q) s := AWP_ret h
theorem W_start {c : Code} (h : AWP P n0 c (unw P n0 [] Q) s) : AWP P n0 c Q s := h

theorem W_cond {c : Operand} {x y : Code} {b : Bool} (hc : ev s.tmps c = .bool b) (h1 : b = true → AWP P n0 x (unw P n0 k Q) s) (h2 : b = false → AWP P n0 y (unw P n0 k Q) s) : AWP P n0 (.cond c x y) (unw P n0 k Q) s := AWP_cond hc h1 h2

theorem N_code {c : Code} (h : AWP P n0 c (unw P n0 k Q) s) : unw P n0 (.code c :: k) Q .normal s := h
theorem N_blk {id : Nat} (h : unw P n0 k Q .normal s) : unw P n0 (.blk id :: k) Q .normal s := h
theorem N_nil (h : Q .normal s) : unw P n0 [] Q .normal s := h
theorem E_code {c : Code} {id : Nat} (h : unw P n0 k Q (.exit id) s) : unw P n0 (.code c :: k) Q (.exit id) s := h
theorem E_blk {id : Nat} (h : unw P n0 k Q .normal s) : unw P n0 (.blk id :: k) Q (.exit id) s := by
  show blockQ id _ _ s
  simp only [blockQ, if_true]; exact h
theorem E_blk_ne {id id' : Nat} (hn : ¬ id' = id) (h : unw P n0 k Q (.exit id') s) : unw P n0 (.blk id :: k) Q (.exit id') s := by
  show blockQ id _ _ s
  simp only [blockQ, if_neg hn]; exact h
theorem R_code {c : Code} (h : unw P n0 k Q .ret s) : unw P n0 (.code c :: k) Q .ret s := h
theorem R_blk {id : Nat} (h : unw P n0 k Q .ret s) : unw P n0 (.blk id :: k) Q .ret s := h
theorem R_nil (h : Q .ret s) : unw P n0 [] Q .ret s := h

end

def isCall (o : Oper) : Bool :=
  match o.op with
  | .call c => match c.callee with | .builtin _ => false | _ => true
  | _ => false

/-- What has to be shown on either side of a guard; it is looked into only as soon as the guard is known. -/
def gsplit (g : Bool) (A B : Prop) : Prop := (g = true → A) ∧ (g = false → B)

@[congr] theorem gsplit_congr {g g' : Bool} {A B : Prop} (h : g = g') : gsplit g A B = gsplit g' A B := by rw [h]
theorem gsplit_true (A B : Prop) : gsplit true A B = A := by simp [gsplit]
theorem gsplit_false (A B : Prop) : gsplit false A B = B := by simp [gsplit]
theorem gsplit_intro {g : Bool} {A B : Prop} (h1 : g = true → A) (h2 : g = false → B) : gsplit g A B := ⟨h1, h2⟩

/-- A row of operations up to its next call. -/
def arun (P : Program) (all : Array Oper) (K : List Oper → Nat → St → Prop) : List Oper → Nat → St → Prop
  | [], i, s => K [] i s
  | o :: rest, i, s =>
    match isCall o with
    | true => K (o :: rest) i s
    | false =>
      match guardA all s.tmps o with
      | none => False
      | some g =>
        gsplit g (match astep P s.tmps s.h s.nx o with | some (y, h') => arun P all K rest (i + 1) ⟨putT s.tmps o.dst y, h', s.nx + 1⟩ | none => False)
          (arun P all K rest (i + 1) ⟨putT s.tmps o.dst (.tuple []), s.h, s.nx + 1⟩)

theorem AO_arun {P : Program} {n0 : Nat} {all : Array Oper} {K' : St → Prop} {K : List Oper → Nat → St → Prop} (hK : ∀ rest i s, K rest i s → AO P n0 all rest i K' s) :
    ∀ (rest : List Oper) (i : Nat) (s : St), arun P all K rest i s → AO P n0 all rest i K' s
  | [], i, s, h => hK _ _ _ h
  | o :: rest, i, s, h => by
    simp only [arun] at h
    split at h
    · exact hK _ _ _ h
    · split at h
      · exact h.elim
      · rename_i g hg
        cases g with
        | true =>
          have h := h.1 rfl
          split at h
          · rename_i y h' hy
            exact AO_step hg hy (AO_arun hK rest (i + 1) _ h)
          · exact h.elim
        | false => exact AO_skip hg (AO_arun hK rest (i + 1) _ (h.2 rfl))

section
variable {P : Program} {n0 : Nat} {Q : Exit → St → Prop} {s : St} {k : List It}

/-- A row of operations. -/
theorem W_region {id : Nat} {ops : Array Oper} (h : ∀ K : List Oper → Nat → St → Prop, (∀ rest i s', AO P n0 ops rest i (fun s => unw P n0 k Q .normal s) s' → K rest i s') → arun P ops K ops.toList 0 s) :
    AWP P n0 (.region id ops false) (unw P n0 k Q) s :=
  AWP_region (AO_arun (fun _ _ _ h => h) _ _ _ (h _ fun _ _ _ h => h))

/-- The rest of a row, behind a call. -/
theorem O_run {all : Array Oper} {K' : St → Prop} {rest : List Oper} {i : Nat} (h : ∀ K : List Oper → Nat → St → Prop, (∀ rest i s', AO P n0 all rest i K' s' → K rest i s') → arun P all K rest i s) : AO P n0 all rest i K' s :=
  AO_arun (fun _ _ _ h => h) _ _ _ (h _ fun _ _ _ h => h)

theorem O_nil {all : Array Oper} {i : Nat} (h : unw P n0 k Q .normal s) : AO P n0 all [] i (fun s => unw P n0 k Q .normal s) s := AO_nil h

theorem W_loop {c : Code} (I : Nat → St → Prop) (n : Nat) (s' : St) (h0 : I n s') (hw : Weak n0 s s')
    (round : ∀ n s, I n s → AWP P n0 c (thenQ (fun s' => ∃ m, m < n ∧ ∃ s'', I m s'' ∧ Weak n0 s' s'') (unw P n0 k Q)) s) : AWP P n0 (.loop c) (unw P n0 k Q) s :=
  AWP_weak s' hw (AWP_loop I n h0 round)

end
end Go.AM
end

section
namespace Go.AM
open Go

attribute [go_sem] gsplit_true gsplit_false arun isCall guardA astep putT ev evs evp ofV ofC apick abuiltin anil aload cellsFrom takeAs astore boxCells abox lk hset abin abin1 abin2 aint ashift astr aequal aeq aeqs apart
  afieldAddr afield fld aextract aindexAddr aindex abnd aslice alim aunary aconvert aiface alen aminmax abuild afill splice abuildSlice arows amakeSlice srcB rowsOf aappend TK.agg target
  alookup amapUpdate amapEntry aentryStore adelete keyOk commaA mpe_nil mpe_keys alook_mpe aput_mpe adel_mpe aborn_mpe astamp_mpe

attribute [go_sem] List.set_cons_zero List.set_cons_succ List.getD_cons_zero List.getD_cons_succ List.getElem?_cons_succ List.getElem?_cons_zero List.getElem?_toArray List.map_cons List.map_nil
  Option.map_some Option.map_none Option.bind_some Option.getD_some Option.getD_none List.drop_succ_cons List.drop_zero List.take_succ_cons List.take_zero List.length_cons List.length_nil List.nil_append List.cons_append
  List.replicate_succ List.replicate_zero Option.isNone_none Option.isNone_some Option.isSome_some Option.isSome_none

end Go.AM
end

section
namespace Go.AM
open Go

def touchOf : AVal → List Nat
  | .ref id _ _ _ _ _ => [id]
  | .ptr id _ _ _ => [id]
  | .mapv id => [id]
  | _ => []

def touched (tm : List AVal) (o : Oper) : List Nat := o.op.operands.toList.flatMap fun x => touchOf (ev tm x)

/-- Two heaps turn in the same way. -/
inductive Eff (f : Nat) (T : List Nat) (h1 h1' h2 h2' : Heap) : Prop
  | none (e1 : h1' = h1) (e2 : h2' = h2)
  | new (ob : Ob) (e1 : h1' = (f, ob) :: h1) (e2 : h2' = (f, ob) :: h2)
  | upd (id : Nat) (ob ob0 : Ob) (hT : id ∈ T) (hl : lk h1 id = some ob0) (e1 : h1' = hset h1 id ob) (e2 : h2' = hset h2 id ob)

theorem lk_cons (f : Nat) (ob : Ob) (h : Heap) (j : Nat) : lk ((f, ob) :: h) j = if j = f then some ob else lk h j := by
  simp only [lk]
  by_cases e : f = j
  · simp [e]
  · have : ¬ j = f := fun e' => e e'.symm
    simp [e, this]

theorem Eff.same {f : Nat} {T : List Nat} {h1 h1' h2 h2' : Heap} (e : Eff f T h1 h1' h2 h2') (hT : ∀ id, id ∈ T → lk h1 id = lk h2 id) (id : Nat) (he : lk h1 id = lk h2 id) : lk h1' id = lk h2' id := by
  cases e with
  | none e1 e2 => rw [e1, e2, he]
  | new ob e1 e2 => rw [e1, e2, lk_cons, lk_cons, he]
  | upd i ob ob0 hi hl e1 e2 => rw [e1, e2, lk_hset ob hl, lk_hset ob (hT i hi ▸ hl), he]

theorem Eff.keep1 {f : Nat} {T : List Nat} {h1 h1' h2 h2' : Heap} (e : Eff f T h1 h1' h2 h2') (id : Nat) (hf : id ≠ f) (ht : id ∉ T) : lk h1' id = lk h1 id := by
  cases e with
  | none e1 e2 => rw [e1]
  | new ob e1 e2 => rw [e1, lk_cons, if_neg hf]
  | upd i ob ob0 hi hl e1 e2 => rw [e1, lk_hset ob hl, if_neg (fun (e : id = i) => ht (e ▸ hi))]

theorem Eff.keep2 {f : Nat} {T : List Nat} {h1 h1' h2 h2' : Heap} (e : Eff f T h1 h1' h2 h2') (hT : ∀ id, id ∈ T → lk h1 id = lk h2 id) (id : Nat) (hf : id ≠ f) (ht : id ∉ T) : lk h2' id = lk h2 id := by
  cases e with
  | none e1 e2 => rw [e2]
  | new ob e1 e2 => rw [e2, lk_cons, if_neg hf]
  | upd i ob ob0 hi hl e1 e2 => rw [e2, lk_hset ob (hT i hi ▸ hl), if_neg (fun (e : id = i) => ht (e ▸ hi))]

theorem cellsFrom_loc {h1 h2 : Heap} {x : AVal} (h : ∀ id, id ∈ touchOf x → lk h1 id = lk h2 id) : cellsFrom h1 x = cellsFrom h2 x := by
  cases x <;> simp only [cellsFrom]
  rename_i id sz row col
  rw [h id (by simp [touchOf])]

theorem aload_loc {P : Program} {h1 h2 : Heap} {t : TypeId} {x : AVal} (h : ∀ id, id ∈ touchOf x → lk h1 id = lk h2 id) : aload P h1 t x = aload P h2 t x := by
  unfold aload
  rw [cellsFrom_loc h]

theorem rowsOf_loc {h1 h2 : Heap} {x : AVal} (h : ∀ id, id ∈ touchOf x → lk h1 id = lk h2 id) : rowsOf h1 x = rowsOf h2 x := by
  cases x <;> simp only [rowsOf]
  rename_i id sz base len ex c
  rw [h id (by simp [touchOf])]

theorem aindexAddr_loc {P : Program} {h1 h2 : Heap} {t : TypeId} {x i : AVal} (h : ∀ id, id ∈ touchOf x → lk h1 id = lk h2 id) : aindexAddr P h1 t x i = aindexAddr P h2 t x i := by
  unfold aindexAddr
  cases x <;> try rfl
  rename_i id sz base len ex c
  simp only [h id (by simp [touchOf])]

theorem aslice_loc {P : Program} {h1 h2 : Heap} {t : TypeId} {x : AVal} {lo hi mx : Option AVal} (h : ∀ id, id ∈ touchOf x → lk h1 id = lk h2 id) : aslice P h1 t x lo hi mx = aslice P h2 t x lo hi mx := by
  unfold aslice
  split
  · split
    · rfl
    · rfl
    · rename_i id sz base len ex c _
      have e := h id (by simp [touchOf])
      rw [e]
    · rfl
  · rfl

theorem astore_loc {P : Program} {h1 h2 h1' : Heap} {t : TypeId} {x v : AVal} (h : ∀ id, id ∈ touchOf x → lk h1 id = lk h2 id) (hs : astore P h1 t x v = some h1') (f : Nat) :
    ∃ h2', astore P h2 t x v = some h2' ∧ Eff f (touchOf x) h1 h1' h2 h2' := by
  unfold astore at hs ⊢
  split at hs
  case h_2 => cases hs
  rename_i ti id sz row col cs ht hc
  try simp only [ht, hc]
  split at hs
  case h_2 => cases hs
  rename_i esz rows hl
  rw [← h id (by simp [touchOf]), hl]
  simp only []
  split at hs
  case isFalse => cases hs
  rename_i hsz
  rw [if_pos hsz]
  split at hs
  case h_2 => cases hs
  rename_i r hr
  try simp only [hr]
  split at hs
  case isFalse => cases hs
  rename_i hcond
  rw [if_pos hcond]
  injection hs with hs
  exact ⟨_, rfl, .upd id _ _ (by simp [touchOf]) hl hs.symm rfl⟩

theorem aappend_loc {P : Program} {h1 h2 h1' : Heap} {f : Nat} {st xt : TypeId} {s x y : AVal} (hs : ∀ id, id ∈ touchOf s → lk h1 id = lk h2 id) (hx : ∀ id, id ∈ touchOf x → lk h1 id = lk h2 id)
    (h : aappend P h1 f st xt s x = some (y, h1')) : ∃ h2', aappend P h2 f st xt s x = some (y, h2') ∧ Eff f (touchOf s ++ touchOf x) h1 h1' h2 h2' := by
  unfold aappend at h ⊢
  rw [← rowsOf_loc hx]
  split at h
  case h_2 => cases h
  rename_i e _ _ _ ht
  try simp only [ht]
  split at h
  case h_2 => cases h
  rename_i te new he hnew
  try simp only [he, hnew]
  split at h
  case isFalse => cases h
  rename_i hc
  rw [if_pos hc]
  split at h
  case h_4 => cases h
  case h_1 =>
    split at h
    case isFalse => cases h
    rename_i hlen
    rw [if_pos hlen]
    injection h with h
    injection h with e1 e2
    subst e1
    exact ⟨_, rfl, .new _ e2.symm rfl⟩
  case h_2 =>
    rename_i rows c hne
    split at h
    case isFalse => cases h
    rename_i hlen
    injection h with h
    injection h with e1 e2
    subst e1
    rw [if_pos hlen]
    exact ⟨_, rfl, .new _ e2.symm rfl⟩
  case h_3 =>
    rename_i id sz base len ex c
    rw [← hs id (by simp [touchOf])]
    split at h
    case h_2 => cases h
    rename_i esz rows hl
    try simp only [hl]
    split at h
    case isFalse => cases h
    rename_i hcond
    rw [if_pos hcond]
    split at h
    · rename_i h5
      rw [if_pos h5]
      injection h with h
      injection h with e1 e2
      subst e1
      exact ⟨_, rfl, .upd id _ _ (by simp [touchOf]) hl e2.symm rfl⟩
    · rename_i h5
      rw [if_neg h5]
      split at h
      · rename_i h6
        rw [if_pos h6]
        injection h with h
        injection h with e1 e2
        subst e1
        exact ⟨_, rfl, .upd id _ _ (by simp [touchOf]) hl e2.symm rfl⟩
      · rename_i h6
        rw [if_neg h6]
        split at h
        case isFalse => cases h
        rename_i h7
        rw [if_pos h7]
        injection h with h
        injection h with e1 e2
        subst e1
        exact ⟨_, rfl, .new _ e2.symm rfl⟩

theorem alookup_loc {P : Program} {h1 h2 : Heap} {t : TypeId} {x k : AVal} {ok : Bool} (h : ∀ id, id ∈ touchOf x → lk h1 id = lk h2 id) : alookup P h1 t x k ok = alookup P h2 t x k ok := by
  unfold alookup
  cases x <;> try rfl
  rename_i id
  simp only [h id (by simp [touchOf])]

theorem amapUpdate_loc {P : Program} {h1 h2 h1' : Heap} {t : TypeId} {x k v : AVal} (h : ∀ id, id ∈ touchOf x → lk h1 id = lk h2 id) (hs : amapUpdate P h1 t x k v = some h1') (f : Nat) :
    ∃ h2', amapUpdate P h2 t x k v = some h2' ∧ Eff f (touchOf x) h1 h1' h2 h2' := by
  unfold amapUpdate at hs ⊢
  split at hs
  case h_2 => cases hs
  rename_i ht
  try simp only [ht]
  split at hs
  case h_2 => cases hs
  rename_i hk
  try simp only [hk]
  split at hs
  case isFalse => cases hs
  rename_i hko
  rw [if_pos hko]
  split at hs
  case h_2 => cases hs
  rename_i id
  split at hs
  case h_2 => cases hs
  rename_i es hl
  rw [← h id (by simp [touchOf]), hl]
  simp only []
  split at hs
  case isFalse => cases hs
  rename_i hks
  rw [if_pos hks]
  injection hs with hs
  exact ⟨_, rfl, .upd id _ _ (by simp [touchOf]) hl hs.symm rfl⟩

theorem amapEntry_loc {P : Program} {h1 h2 h1' : Heap} {t : TypeId} {x k y : AVal} (h : ∀ id, id ∈ touchOf x → lk h1 id = lk h2 id) (hs : amapEntry P h1 t x k = some (y, h1')) (f : Nat) :
    ∃ h2', amapEntry P h2 t x k = some (y, h2') ∧ Eff f (touchOf x) h1 h1' h2 h2' := by
  unfold amapEntry at hs ⊢
  split at hs
  case h_2 => cases hs
  rename_i ht
  try simp only [ht]
  split at hs
  case h_2 => cases hs
  rename_i hk1 hk2
  try simp only [hk1, hk2]
  split at hs
  case isFalse => cases hs
  rename_i hko
  rw [if_pos hko]
  split at hs
  case h_2 => cases hs
  rename_i id
  split at hs
  case h_2 => cases hs
  rename_i es hl
  rw [← h id (by simp [touchOf]), hl]
  simp only []
  split at hs
  case isFalse => cases hs
  rename_i hks
  rw [if_pos hks]
  split at hs
  · rename_i he
    try simp only [he]
    injection hs with hs
    injection hs with e1 e2
    subst e1
    exact ⟨_, rfl, .upd id _ _ (by simp [touchOf]) hl e2.symm rfl⟩
  · rename_i he
    try simp only [he]
    injection hs with hs
    injection hs with e1 e2
    subst e1
    exact ⟨_, rfl, .upd id _ _ (by simp [touchOf]) hl e2.symm rfl⟩

theorem aentryStore_loc {h1 h2 h1' : Heap} {x k v : AVal} (h : ∀ id, id ∈ touchOf x → lk h1 id = lk h2 id) (hs : aentryStore h1 x k v = some h1') (f : Nat) :
    ∃ h2', aentryStore h2 x k v = some h2' ∧ Eff f (touchOf x) h1 h1' h2 h2' := by
  unfold aentryStore at hs ⊢
  split at hs
  case h_2 => cases hs
  rename_i id b
  split at hs
  case h_2 => cases hs
  rename_i M hl
  rw [← h id (by simp [touchOf]), hl]
  obtain ⟨es, he, hs⟩ := Option.map_eq_some_iff.1 hs
  simp only [he]
  exact ⟨_, rfl, .upd id _ _ (by simp [touchOf]) hl hs.symm rfl⟩

theorem adelete_loc {P : Program} {h1 h2 h1' : Heap} {t : TypeId} {x k y : AVal} (h : ∀ id, id ∈ touchOf x → lk h1 id = lk h2 id) (hs : adelete P h1 t x k = some (y, h1')) (f : Nat) :
    ∃ h2', adelete P h2 t x k = some (y, h2') ∧ Eff f (touchOf x) h1 h1' h2 h2' := by
  unfold adelete at hs ⊢
  split at hs
  case h_2 => cases hs
  rename_i ht
  try simp only [ht]
  split at hs
  case h_2 => cases hs
  rename_i hk
  try simp only [hk]
  split at hs
  case isFalse => cases hs
  rename_i hko
  rw [if_pos hko]
  split at hs
  case h_2 => cases hs
  rename_i id
  split at hs
  case h_2 => cases hs
  rename_i es hl
  rw [← h id (by simp [touchOf]), hl]
  simp only []
  split at hs
  case isFalse => cases hs
  rename_i hks
  rw [if_pos hks]
  injection hs with hs
  injection hs with e1 e2
  subst e1
  exact ⟨_, rfl, .upd id _ _ (by simp [touchOf]) hl e2.symm rfl⟩

theorem mem_touched {tm : List AVal} {o : Oper} {x : Operand} (hx : x ∈ o.op.operands) (id : Nat) (h : id ∈ touchOf (ev tm x)) : id ∈ touched tm o :=
  List.mem_flatMap.2 ⟨x, by simpa using hx, h⟩

theorem Eff.widen {f : Nat} {T T' : List Nat} {h1 h1' h2 h2' : Heap} (e : Eff f T h1 h1' h2 h2') (hT : ∀ id, id ∈ T → id ∈ T') : Eff f T' h1 h1' h2 h2' := by
  cases e with
  | none e1 e2 => exact .none e1 e2
  | new ob e1 e2 => exact .new ob e1 e2
  | upd i ob ob0 hi hl e1 e2 => exact .upd i ob ob0 (hT i hi) hl e1 e2

/-- An operation over two heaps that are alike in what it looks at. -/
theorem astep_loc {P : Program} {tm : List AVal} {h1 h2 h1' : Heap} {f : Nat} {o : Oper} {y : AVal} (hl : ∀ id, id ∈ touched tm o → lk h1 id = lk h2 id) (h : astep P tm h1 f o = some (y, h1')) :
    ∃ h2', astep P tm h2 f o = some (y, h2') ∧ Eff f (touched tm o) h1 h1' h2 h2' := by
  have same : ∀ {g : Heap → Option AVal}, g h1 = g h2 → (g h1).map (fun y => (y, h1)) = some (y, h1') → ∃ h2', (g h2).map (fun y => (y, h2)) = some (y, h2') ∧ Eff f (touched tm o) h1 h1' h2 h2' := fun e hh => by
    obtain ⟨z, h3, h4⟩ := Option.map_eq_some_iff.1 hh
    injection h4 with e1 e2
    subst e1
    rw [e] at h3
    exact ⟨h2, by rw [h3]; rfl, .none e2.symm rfl⟩
  have pure' : ∀ {z : AVal}, some (z, h1) = some (y, h1') → ∃ h2', some (z, h2) = some (y, h2') ∧ Eff f (touched tm o) h1 h1' h2 h2' := fun hh => by
    injection hh with hh
    injection hh with e1 e2
    exact ⟨h2, by rw [e1], .none e2.symm rfl⟩
  have box : ∀ {x : AVal}, abox h1 f x = some (y, h1') → ∃ h2', abox h2 f x = some (y, h2') ∧ Eff f (touched tm o) h1 h1' h2 h2' := fun hh => by
    unfold abox at hh ⊢
    split at hh
    · rename_i cs hc
      injection hh with hh
      injection hh with e1 e2
      subst e1
      exact ⟨_, rfl, .new _ e2.symm rfl⟩
    · cases hh
  have mt : ∀ x, x ∈ o.op.operands → ∀ id, id ∈ touchOf (ev tm x) → lk h1 id = lk h2 id := fun x hx id hid => hl id (mem_touched hx id hid)
  have mt' : ∀ x, x ∈ o.op.operands → ∀ id, id ∈ touchOf (ev tm x) → id ∈ touched tm o := fun x hx id hid => mem_touched hx id hid
  obtain ⟨dst, op, type, pos, after, guard⟩ := o
  cases op <;> simp only [astep] at h ⊢ <;> try (cases h; done)
  case move x => exact pure' h
  case assign x => exact pure' h
  case pick c x z =>
    split at h
    · exact pure' h
    · cases h
  case alloc elem =>
    split at h
    · exact box h
    · cases h
  case box elem x => exact box h
  case build t parts => exact same (g := fun _ => abuild P t (evp tm parts)) rfl h
  case buildSlice t len parts =>
    unfold abuildSlice at h ⊢
    split at h
    case h_2 => cases h
    rename_i e _ _ _ ht
    try simp only [ht]
    split at h
    case h_2 => cases h
    rename_i te he
    try simp only [he]
    split at h
    case h_2 => cases h
    rename_i z hz
    try simp only [hz]
    split at h
    case isFalse => cases h
    rename_i hc
    rw [if_pos hc]
    split at h
    case h_2 => cases h
    rename_i rows hr
    try simp only [hr]
    injection h with h
    injection h with e1 e2
    subst e1
    exact ⟨_, rfl, .new _ e2.symm rfl⟩
  case load t x => exact same (g := fun h => aload P h t (ev tm x)) (aload_loc (mt x (by simp [Op.operands]))) h
  case store t x z =>
    obtain ⟨h3, h4, h5⟩ := Option.map_eq_some_iff.1 h
    injection h5 with e1 e2
    subst e1 e2
    obtain ⟨h2', h6, h7⟩ := astore_loc (mt x (by simp [Op.operands])) h4 f
    exact ⟨h2', by rw [h6]; rfl, h7.widen (mt' x (by simp [Op.operands]))⟩
  case nilCheck x =>
    split at h
    case isFalse => cases h
    rename_i hc
    obtain ⟨h2', h3, h4⟩ := pure' h
    exact ⟨h2', by rw [if_pos hc]; exact h3, h4⟩
  case binOp op t x z yt => exact same (g := fun _ => abin P op t (ev tm x) (ev tm z)) rfl h
  case unOp op t x => exact same (g := fun _ => aunary op (ev tm x)) rfl h
  case convert src dst' x =>
    split at h
    · exact same (g := fun _ => aconvert P dst' (ev tm x)) rfl h
    · cases h
  case makeInterface t x => exact same (g := fun _ => aiface P t (ev tm x)) rfl h
  case makeFunc fn first captured => exact pure' h
  case makeSlice t l c =>
    unfold amakeSlice at h ⊢
    split at h
    case h_2 => cases h
    rename_i k1 l' k2 c' hl' hc'
    try simp only [hl', hc']
    split at h
    case h_2 => cases h
    rename_i e _ _ _ ht
    try simp only [ht]
    split at h
    case h_2 => cases h
    rename_i te he
    try simp only [he]
    split at h
    case h_2 => cases h
    rename_i z hz
    try simp only [hz]
    split at h
    case isFalse => cases h
    rename_i hc
    rw [if_pos hc]
    injection h with h
    injection h with e1 e2
    subst e1
    exact ⟨_, rfl, .new _ e2.symm rfl⟩
  case slice t x lo hi mx => exact same (g := fun h => aslice P h t (ev tm x) (lo.map (ev tm)) (hi.map (ev tm)) (mx.map (ev tm))) (aslice_loc (mt x (by simp [Op.operands]))) h
  case fieldAddr t x fl => exact same (g := fun _ => afieldAddr P t (ev tm x) fl) rfl h
  case field t x fl => exact same (g := fun _ => afield P t (ev tm x) fl) rfl h
  case indexAddr t x ix => exact same (g := fun h => aindexAddr P h t (ev tm x) (ev tm ix)) (aindexAddr_loc (mt x (by simp [Op.operands]))) h
  case index t x ix => exact same (g := fun _ => aindex P t (ev tm x) (ev tm ix)) rfl h
  case extract x ix => exact same (g := fun _ => aextract (ev tm x) ix) rfl h
  case makeMap t r =>
    split at h
    · injection h with h
      injection h with e1 e2
      subst e1
      exact ⟨_, rfl, .new _ e2.symm rfl⟩
    · cases h
  case lookup t x k ok => exact same (g := fun h => alookup P h t (ev tm x) (ev tm k) ok) (alookup_loc (mt x (by simp [Op.operands]))) h
  case mapUpdate t m k x =>
    obtain ⟨h3, h4, h5⟩ := Option.map_eq_some_iff.1 h
    injection h5 with e1 e2
    subst e1 e2
    obtain ⟨h2', h6, h7⟩ := amapUpdate_loc (mt m (by simp [Op.operands])) h4 f
    exact ⟨h2', by rw [h6]; rfl, h7.widen (mt' m (by simp [Op.operands]))⟩
  case insert t m k x =>
    obtain ⟨h3, h4, h5⟩ := Option.map_eq_some_iff.1 h
    injection h5 with e1 e2
    subst e1 e2
    obtain ⟨h2', h6, h7⟩ := amapUpdate_loc (mt m (by simp [Op.operands])) h4 f
    exact ⟨h2', by rw [h6]; rfl, h7.widen (mt' m (by simp [Op.operands]))⟩
  case mapEntry t m k =>
    obtain ⟨h2', h6, h7⟩ := amapEntry_loc (mt m (by simp [Op.operands])) h f
    exact ⟨h2', h6, h7.widen (mt' m (by simp [Op.operands]))⟩
  case entryStore t m k x =>
    obtain ⟨h3, h4, h5⟩ := Option.map_eq_some_iff.1 h
    injection h5 with e1 e2
    subst e1 e2
    obtain ⟨h2', h6, h7⟩ := aentryStore_loc (mt m (by simp [Op.operands])) h4 f
    exact ⟨h2', by rw [h6]; rfl, h7.widen (mt' m (by simp [Op.operands]))⟩
  case call c =>
    split at h
    case h_2 => cases h
    rename_i b hb
    unfold abuiltin at h ⊢
    split at h
    case h_6 => cases h
    · rename_i t x hts hxs
      exact same (g := fun _ => alen P t x) rfl h
    · rename_i st xt s x hts hxs
      have hmem : ∀ z, z ∈ evs tm c.args → ∃ q, q ∈ c.args ∧ ev tm q = z := fun z hz => by
        simp only [evs, List.mem_map] at hz
        obtain ⟨q, hq, rfl⟩ := hz
        exact ⟨q, by simpa using hq, rfl⟩
      obtain ⟨q1, hq1, e1⟩ := hmem s (by rw [hxs]; simp)
      obtain ⟨q2, hq2, e2⟩ := hmem x (by rw [hxs]; simp)
      have m1 : q1 ∈ (Op.call c).operands := by simp [Op.operands, Call.operands, hb, hq1]
      have m2 : q2 ∈ (Op.call c).operands := by simp [Op.operands, Call.operands, hb, hq2]
      subst e1 e2
      obtain ⟨h2', h6, h7⟩ := aappend_loc (mt q1 m1) (mt q2 m2) h
      exact ⟨h2', h6, h7.widen fun id hid => by
        rcases List.mem_append.1 hid with hid | hid
        · exact mt' q1 m1 id hid
        · exact mt' q2 m2 id hid⟩
    · rename_i x z hxs
      exact same (g := fun _ => aminmax true x z) rfl h
    · rename_i x z hxs
      exact same (g := fun _ => aminmax false x z) rfl h
    · rename_i t kt m k hts hxs
      obtain ⟨q1, hq1, e1⟩ : ∃ q, q ∈ c.args ∧ ev tm q = m := by
        have hz : m ∈ evs tm c.args := by rw [hxs]; simp
        simp only [evs, List.mem_map] at hz
        obtain ⟨q, hq, e⟩ := hz
        exact ⟨q, by simpa using hq, e⟩
      have m1 : q1 ∈ (Op.call c).operands := by simp [Op.operands, Call.operands, hb, hq1]
      subst e1
      obtain ⟨h2', h6, h7⟩ := adelete_loc (mt q1 m1) h f
      exact ⟨h2', h6, h7.widen (mt' q1 m1)⟩

/-- An operation over two rows of slots that are alike in what it looks at. -/
theorem astep_congr {P : Program} {t1 t2 : List AVal} {h : Heap} {f : Nat} {o : Oper} (he : ∀ x, x ∈ o.op.operands → ev t1 x = ev t2 x) : astep P t1 h f o = astep P t2 h f o := by
  have hevs : ∀ xs : Array Operand, (∀ x, x ∈ xs → ev t1 x = ev t2 x) → evs t1 xs = evs t2 xs := fun xs hx => List.map_congr_left fun x hm => hx x (by simpa using hm)
  have hevp : ∀ xs : Array (Nat × Operand), (∀ x, x ∈ xs.map (·.2) → ev t1 x = ev t2 x) → evp t1 xs = evp t2 xs := fun xs hx => List.map_congr_left fun x hm => by
    rw [hx x.2 (Array.mem_map.2 ⟨x, by simpa using hm, rfl⟩)]
  obtain ⟨dst, op, type, pos, after, guard⟩ := o
  cases op <;> simp only [astep] <;> simp only [Op.operands] at he
  case move x => rw [he x (by simp)]
  case assign x => rw [he x (by simp)]
  case pick c x z => rw [he c (by simp), he x (by simp), he z (by simp)]
  case box elem x => rw [he x (by simp)]
  case build t parts => rw [hevp parts fun x hx => he x (by simpa using hx)]
  case buildSlice t len parts => rw [hevp parts fun x hx => he x (by simpa using hx)]
  case load t x => rw [he x (by simp)]
  case store t x z => rw [he x (by simp), he z (by simp)]
  case nilCheck x => rw [he x (by simp)]
  case binOp op t x z yt => rw [he x (by simp), he z (by simp)]
  case unOp op t x => rw [he x (by simp)]
  case convert src dst' x => rw [he x (by simp)]
  case makeInterface t x => rw [he x (by simp)]
  case makeFunc fn first captured => rw [hevs first fun x hx => he x (by simp [hx]), hevs captured fun x hx => he x (by simp [hx])]
  case makeSlice t l c => rw [he l (by simp), he c (by simp)]
  case slice t x lo hi mx =>
    have ho : ∀ q : Option Operand, (∀ x, x ∈ q → ev t1 x = ev t2 x) → q.map (ev t1) = q.map (ev t2) := fun q hq => by
      cases q with
      | none => rfl
      | some x => simp [hq x rfl]
    rw [he x (by simp), ho lo (fun z hz => he z (by simp; exact .inr (.inl hz))), ho hi (fun z hz => he z (by simp; exact .inr (.inr (.inl hz)))), ho mx (fun z hz => he z (by simp; exact .inr (.inr (.inr hz))))]
  case fieldAddr t x fl => rw [he x (by simp)]
  case field t x fl => rw [he x (by simp)]
  case indexAddr t x ix => rw [he x (by simp), he ix (by simp)]
  case index t x ix => rw [he x (by simp), he ix (by simp)]
  case extract x ix => rw [he x (by simp)]
  case lookup t x k ok => rw [he x (by simp), he k (by simp)]
  case mapUpdate t m k x => rw [he m (by simp), he k (by simp), he x (by simp)]
  case insert t m k x => rw [he m (by simp), he k (by simp), he x (by simp)]
  case mapEntry t m k => rw [he m (by simp), he k (by simp)]
  case entryStore t m k x => rw [he m (by simp), he k (by simp), he x (by simp)]
  case call c => rw [hevs c.args fun x hx => he x (by simp [Call.operands, hx])]

end Go.AM
end
