/-
  AM, part 10: append and clear over abstract states.
-/
import Derived.Test.YtfbmbjfcgoahfaaAM9
namespace Go.AM
open Go

def srcB (P : Program) (size : Nat) (xt : TypeId) (x : AVal) : Bool :=
  match x with
  | .str _ => match tab P xt with | some ⟨.str, _, _, _⟩ => size == 1 | _ => false
  | _ => match tab P xt with | some ⟨.slice _, _, _, _⟩ => true | _ => false

theorem srcB_ok {P : Program} {size : Nat} {xt : TypeId} {x : AVal} (h : srcB P size xt x = true) : srcK P size xt x := by
  have hs : (match tab P xt with | some ⟨.slice _, _, _, _⟩ => true | _ => false) = true → ∃ e, P.underlying xt = some (.slice e) := fun h => by
    split at h
    · rename_i ht; exact ⟨_, und_slice ht⟩
    · cases h
  cases x <;> simp only [srcB] at h <;> first | exact .inr ⟨fun _ h => (by cases h), hs h⟩ | skip
  rename_i s
  split at h
  · rename_i ht
    exact .inl ⟨s, rfl, by simpa using h, und_str ht⟩
  · cases h

def aappend (P : Program) (h : Heap) (fresh : Nat) (st xt : TypeId) (s x : AVal) : Option (AVal × Heap) :=
  match tab P st with
  | some ⟨.slice e, _, _, _⟩ =>
    match tab P e, rowsOf h x with
    | some te, some new =>
      if te.bytes ≤ 16384 ∧ srcB P te.size xt x = true ∧ (∀ r, r ∈ new → r.length = te.size) then
        match s with
        | .sl [] (some 0) => if new.length ≤ 4294967296 then some (.ref fresh new.length 0 new.length false new.length, (fresh, .arr te.size new) :: h) else none
        | .sl rows (some c) =>
          if c < rows.length + new.length ∧ rows.length + new.length ≤ 4294967296 ∧ (∀ r, r ∈ rows → r.length = te.size) then
            some (.ref fresh (rows.length + new.length) 0 (rows.length + new.length) false (rows.length + new.length), (fresh, .arr te.size (rows ++ new)) :: h)
          else none
        | .ref id sz base len ex c =>
          match lk h id with
          | some (.arr esz rows) =>
            if rows.length = sz ∧ esz = te.size ∧ (len + new.length ≤ 4294967296 ∨ (len + new.length ≤ 2199023255552 ∧ te.bytes ≤ 16)) then
              if base = 0 ∧ len = sz then some (.ref id (len + new.length) 0 (len + new.length) false (len + new.length), hset h id (.arr esz (rows ++ new)))
              else if len + new.length ≤ max len c ∧ base + len + new.length ≤ sz then
                some (.ref id sz base (len + new.length) ex c, hset h id (.arr esz (rows.take (base + len) ++ new ++ rows.drop (base + len + new.length))))
              else if ex = true ∧ c < len + new.length then
                some (.ref fresh (len + new.length) 0 (len + new.length) false (len + new.length), (fresh, .arr esz ((rows.drop base).take len ++ new)) :: h)
              else none
            else none
          | _ => none
        | _ => none
      else none
    | _, _ => none
  | _ => none

theorem RowVals.append {c : Cx} {size : Nat} {r1 r2 : List (List AVal)} {v1 v2 : List Value} (h1 : RowVals c size r1 v1) (h2 : RowVals c size r2 v2) (hr : ∀ r, r ∈ r1 → r.length = size) :
    ∀ (i : Nat) r (j : Nat) y, (r1 ++ r2)[i]? = some r → r[j]? = some y → (∀ r, r ∈ r2 → r.length = size) → ∃ u, (v1 ++ v2)[i * size + j]? = some u ∧ u.oneCell' = true ∧ VRel c y u := by
  intro i r j y hi hj hr2
  by_cases hlt : i < r1.length
  · rw [List.getElem?_append_left hlt] at hi
    have hjl : j < size := by rw [← hr r (List.mem_of_getElem? hi)]; exact (List.getElem?_eq_some_iff.1 hj).1
    have : (i + 1) * size ≤ r1.length * size := Nat.mul_le_mul_right _ hlt
    rw [Nat.add_mul, Nat.one_mul] at this
    have hl : i * size + j < v1.length := by rw [h1.len]; omega
    rw [List.getElem?_append_left hl]
    exact ⟨v1[i * size + j], List.getElem?_eq_getElem hl, h1.one _ (List.getElem_mem hl), h1.rel i r j y _ hi hj (List.getElem?_eq_getElem hl)⟩
  · rw [List.getElem?_append_right (by omega)] at hi
    have hjl : j < size := by rw [← hr2 r (List.mem_of_getElem? hi)]; exact (List.getElem?_eq_some_iff.1 hj).1
    have hin : i - r1.length < r2.length := (List.getElem?_eq_some_iff.1 hi).1
    have e1 : r1.length * size + (i - r1.length) * size = i * size := by rw [← Nat.add_mul]; congr 1; omega
    have e2 : (i - r1.length + 1) * size ≤ r2.length * size := Nat.mul_le_mul_right _ hin
    rw [Nat.add_mul, Nat.one_mul] at e2
    rw [List.getElem?_append_right (by rw [h1.len]; omega)]
    have e3 : i * size + j - v1.length = (i - r1.length) * size + j := by rw [h1.len]; omega
    rw [e3]
    have hl : (i - r1.length) * size + j < v2.length := by rw [h2.len]; omega
    exact ⟨v2[(i - r1.length) * size + j], List.getElem?_eq_getElem hl, h2.one _ (List.getElem_mem hl), h2.rel _ r j y _ hi hj (List.getElem?_eq_getElem hl)⟩

section
variable {P : Program} {ext : Nat → Prop} {β : Nat → Option Nat} {p : Nat → Prop} {h : Heap} {w : World} {fresh : Nat}

theorem out_aappend (hin : HIn ext β p h w) (hpf : ¬ p fresh) {st xt ty : TypeId} {s x y : AVal} {vs vx : Value} {h' : Heap} (hs : VRel (cx ext β h w) s vs) (hx : VRel (cx ext β h w) x vx) (hns : Nm p s) (hnx : Nm p x)
    (hy : aappend P h fresh st xt s x = some (y, h')) : Out P ext β p h w fresh (do pure (.value (← Builtin.append_ #[st, xt] ty #[vs, vx]))) y h' := by
  unfold aappend at hy
  split at hy
  case h_2 => cases hy
  rename_i e _ _ _ ht
  split at hy
  case h_2 => cases hy
  rename_i te new he hnew
  split at hy
  case isFalse => cases hy
  rename_i hc
  obtain ⟨hbytes, hsrc, hrow⟩ := hc
  have hu := und_slice ht
  obtain ⟨⟨news, hsx, hrv⟩, hnn⟩ := src_ok hin (srcB_ok hsrc) hx hnx hnew hrow
  have hrv0 := hrv
  have lift : ∀ {v : Value} {w' : World}, (Builtin.append_ #[st, xt] ty #[vs, vx]).run P w = .ok v w' → (do pure (.value (← Builtin.append_ #[st, xt] ty #[vs, vx])) : Sem Next).run P w = .ok (.value v) w' := fun h => by
    simp [h]
  split at hy
  case h_4 => cases hy
  case h_1 =>
    -- nothing, and no room
    split at hy
    case isFalse => cases hy
    rename_i hlen
    injection hy with hy
    injection hy with e1 e2
    subst e1 e2
    cases hs with | sl _ _ a cap esz blk off vals hcap hlim hrow' ha hcell hrel =>
    have hc0 : cap = 0 := hlim 0 rfl
    subst hc0
    rcases Nat.eq_zero_or_pos new.length with hn0 | hn0
    · have hnil : new = [] := List.length_eq_zero_iff.1 hn0
      subst hnil
      have hrun := run_nothing (P := P) (w := w) (ty := ty) hu he (base := a) (sLen := 0) (sCap := 0) (Nat.le_refl _) hsx
      obtain ⟨k1, k2, k3⟩ := HIn.unborn hin hpf te.size
      refine ⟨_, _, w, _, lift hrun, .inl rfl, k1, .ref _ _ _ _ _ _ _ _ (Nat.le_refl _) (Nat.le_refl _) (fun _ => rfl) fun esz' rows' hl' => ?_, .ref _ _ _ _ _ _ (.inr rfl), k2, k3⟩
      have hl1 : lk ((fresh, .arr te.size []) :: h) fresh = some (.arr esz' rows') := hl'
      simp only [lk, if_true] at hl1
      injection hl1 with hl1
      injection hl1 with q1 q2
      subst q1 q2
      exact ⟨Nat.le_refl _, fun _ => ⟨Nat.le_refl _, .inl rfl⟩⟩
    · have hold : (Builtin.firstCells te.size 0 (.slice a 0 0)).run P w.drew = .ok ([] : List Value).toArray w.drew := by
        cases a <;> simp [Builtin.firstCells, loadCells, loadCellsFrom]
      obtain ⟨cap, cs, w', h1, h2, h3, h4, h5⟩ := run_grow (P := P) (w := w) (ty := ty) hu he hold (by simp) hsx (by omega) (.inl ⟨by omega, hbytes⟩)
      simp only [Nat.zero_add, List.nil_append, List.length_nil] at h1 h3 h5
      exact out_new_slice hin hpf (lift h1) h2 hrow h4 (Nat.le_trans (Nat.mul_le_mul_right _ h3) h4) (fun i r j z hi hj => by
        have hjl : j < te.size := by rw [← hrow r (List.mem_of_getElem? hi)]; exact (List.getElem?_eq_some_iff.1 hj).1
        have hil := (List.getElem?_eq_some_iff.1 hi).1
        have e2 : (i + 1) * te.size ≤ new.length * te.size := Nat.mul_le_mul_right _ hil
        rw [Nat.add_mul, Nat.one_mul] at e2
        have hl : i * te.size + j < news.length := by rw [hrv.len]; omega
        exact ⟨news[i * te.size + j], by rw [h5 _ hl]; exact List.getElem?_eq_getElem hl, hrv.one _ (List.getElem_mem hl), hrv.rel i r j z _ hi hj (List.getElem?_eq_getElem hl)⟩) hnn (Nat.le_refl _) h3 h3 (fun h => by cases h)
  case h_2 =>
    rename_i rows c _
    split at hy
    case isFalse => cases hy
    rename_i hc
    obtain ⟨hc1, hc2, hc3⟩ := hc
    injection hy with hy
    injection hy with e1 e2
    subst e1 e2
    cases hs with | sl _ _ a cap esz blk off vals hcap hlim hrow' ha hcell hrel =>
    have hcc : cap = c := hlim c rfl
    subst hcc
    cases hns with | sl _ _ hns =>
    obtain ⟨olds, hso, hrvo⟩ := src_cells (P := P) (c := cx ext β h w) (cap := cap) hu hc3 ha (fun i r j x h1 h2 => by
      have he : esz = te.size := by rw [← hc3 r (List.mem_of_getElem? h1)]; exact (hrow' r (List.mem_of_getElem? h1)).symm
      subst he
      exact ⟨vals i j, (hcell i r j x h1 h2).2.1, (hcell i r j x h1 h2).2.2, hrel i r j x h1 h2⟩)
    obtain ⟨cap', cs, w', h1, h2, h3, h4, h5⟩ := run_grow (P := P) (w := w) (ty := ty) hu he (firstCells_run hso _ rfl cap) hrvo.len hsx (by omega) (.inl ⟨by omega, hbytes⟩)
    have hrl : (rows ++ new).length = rows.length + new.length := by simp
    have := out_new_slice (rows := rows ++ new) (ex := false) (c0 := rows.length + new.length) hin hpf (lift h1) h2 (fun r hr => (List.mem_append.1 hr).elim (fun hr => hc3 r hr) (fun hr => hrow r hr)) h4 (by rw [hrl]; exact Nat.le_trans (Nat.mul_le_mul_right _ h3) h4)
      (fun i r j z hi hj => by
        obtain ⟨u, h6, h7⟩ := hrvo.append hrv hc3 i r j z hi hj hrow
        have hl : i * te.size + j < olds.length + news.length := by have := (List.getElem?_eq_some_iff.1 h6).1; simpa using this
        exact ⟨u, (h5 _ hl).trans h6, h7⟩)
      (fun r hr => (List.mem_append.1 hr).elim (fun hr => hns r hr) (fun hr => hnn r hr)) (by rw [hrl]; exact Nat.le_refl _) h3 h3 (fun h => by cases h)
    rwa [hrl] at this
  case h_3 =>
    rename_i id sz base len ex c
    split at hy
    case h_2 => cases hy
    rename_i esz rows hl
    split at hy
    case isFalse => cases hy
    rename_i hcond
    obtain ⟨hsz, hesz, hlim⟩ := hcond
    subst hesz
    cases hs with | ref _ _ _ _ _ _ a cap hcap hlo hex hok =>
    cases hns with | ref _ _ _ _ _ _ hid =>
    obtain ⟨_, hok2⟩ := hok te.size rows hl
    obtain ⟨hbl, hat⟩ := hok2 hsz.symm
    obtain ⟨hrows, hblk⟩ := hin.ob id _ hl
    have hnmr := (hin.nm id _ hl).2
    -- the same rows, in a new block
    have grown : cap < len + new.length → ∃ cap' cs w', (Builtin.append_ #[st, xt] ty #[.slice a len cap, vx]).run P w = .ok (.slice (some ⟨w.heap.size, 0, none⟩) (len + new.length) cap') w' ∧ (w'.heap = w.heap.push (.cells cs e) ∧ w'.os = w.os ∧ w'.tape = w.tape ∧ w'.output = w.output) ∧
        len + new.length ≤ cap' ∧ cap' * te.size ≤ cs.size ∧ ∀ (i : Nat) r (j : Nat) z, ((rows.drop base).take len ++ new)[i]? = some r → r[j]? = some z → ∃ u, cs[i * te.size + j]? = some u ∧ u.oneCell' = true ∧ VRel (cx ext β h w) z u := by
      intro hg
      obtain ⟨blk, h5, h6⟩ := ref_cells hin hl (by omega) hcap hat
      have hlen : ((rows.drop base).take len).length = len := by simp; omega
      have hr1 : ∀ r, r ∈ (rows.drop base).take len → r.length = te.size := fun r hr => hrows r (List.mem_of_mem_drop (List.mem_of_mem_take hr))
      obtain ⟨olds, hso, hrvo⟩ := src_cells (P := P) (c := cx ext β h w) (cap := cap) hu hr1 h5 h6
      rw [hlen] at hso
      obtain ⟨cap', cs, w', q1, q2, q3, q4, q5⟩ := run_grow (P := P) (w := w) (ty := ty) hu he (firstCells_run hso _ rfl cap) (by rw [hrvo.len, hlen]) hsx hg (hlim.imp (fun k => ⟨k, hbytes⟩) fun k => k)
      refine ⟨cap', cs, w', q1, q2, q3, q4, fun i r j z hi hj => ?_⟩
      obtain ⟨u, h7, h8⟩ := hrvo.append hrv hr1 i r j z hi hj hrow
      have hl' : i * te.size + j < olds.length + news.length := by have := (List.getElem?_eq_some_iff.1 h7).1; simpa using this
      exact ⟨u, (q5 _ hl').trans h7, h8⟩
    -- the same block
    have room : len + new.length ≤ cap → cap ≠ 0 → ∃ b e' m, β id = some b ∧ a = some ⟨b, base * te.size, none⟩ ∧ w.shape? b = some (e', m) ∧ (base + cap) * te.size ≤ m := by
      intro _ hc0
      rcases hat with h0 | ⟨b, hb, ha, e', m, h1, h2⟩
      · exact absurd h0 hc0
      · exact ⟨b, e', m, hb, ha, h1, h2⟩
    split at hy
    · rename_i hwhole
      obtain ⟨rfl, hlsz⟩ := hwhole
      injection hy with hy
      injection hy with e1 e2
      subst e1 e2
      have hlr : len = rows.length := by omega
      by_cases hn0 : new.length = 0
      · have hnil : new = [] := List.length_eq_zero_iff.1 hn0
        subst hnil
        have hrun := run_nothing (P := P) (w := w) (ty := ty) hu he (base := a) (sLen := len) (sCap := cap) hcap hsx
        have hsame : ∀ j, lk (hset h id (.arr te.size (rows ++ []))) j = lk h j := fun j => by
          rw [lk_hset _ hl]
          by_cases e : j = id
          · subst e; rw [if_pos rfl, List.append_nil]; exact hl.symm
          · rw [if_neg e]
        obtain ⟨k1, k2, k3⟩ := hin.congr hsame
        refine ⟨_, _, w, β, lift hrun, .inl rfl, k1.mono fun _ => .inl, .ref _ _ _ _ _ _ _ _ (by simpa using hcap) (by simpa using hcap) (fun h => by cases h) fun esz' rows' hl' => ?_, .ref _ _ _ _ _ _ (.inl hid), k2, k3 p⟩
        have hl1 : lk (hset h id (.arr te.size (rows ++ []))) id = some (.arr esz' rows') := hl'
        rw [hsame, hl] at hl1
        injection hl1 with hl1
        injection hl1 with q1 q2
        subst q1 q2
        refine ⟨by simp; omega, fun _ => ⟨by simp, ?_⟩⟩
        exact Cx.RefAt.step (k3 p) rfl hat
      · by_cases hroom : len + new.length ≤ cap
        · obtain ⟨b, e', m, hb, ha, hsh, hm⟩ := room hroom (by omega)
          subst ha
          have := out_room (fresh := fresh) (ex' := false) (c1 := len + new.length) (P := P) (s := (do pure (.value (← Builtin.append_ #[st, xt] ty #[.slice (some ⟨b, 0 * te.size, none⟩) len cap, vx])))) hin hl hb hsh hm (by omega) hroom rfl hrow hrv hnn hid hroom (fun h => by cases h)
            (fun cur h1 h2 => lift (run_room hu he hsx hroom h1 h2))
          have e1 : max rows.length (0 + len + new.length) = len + new.length := by omega
          have e2 : rows.take (0 + len) ++ new ++ rows.drop (0 + len + new.length) = rows ++ new := by
            rw [Nat.zero_add, List.take_of_length_le (by omega), List.drop_eq_nil_of_le (by omega), List.append_nil]
          rw [e1, e2] at this
          exact this
        · obtain ⟨cap', cs, w', h1, h2, h3, h4, h5⟩ := grown (by omega)
          have e2 : (rows.drop 0).take len = rows := by rw [List.drop_zero, List.take_of_length_le (by omega)]
          rw [e2] at h5
          have hget : w'.heap[w.heap.size]? = some (.cells cs e (0, 0)) := by rw [h2.1]; simp
          have key := HIn.move (w' := w') (rows' := rows ++ new) hin hl h2 (by simp; omega) (fun r hr => (List.mem_append.1 hr).elim (fun hr => hnmr r hr) (fun hr => hnn r hr)) (fun st => by
            refine ⟨fun r hr => (List.mem_append.1 hr).elim (fun hr => hrows r hr) (fun hr => hrow r hr), ?_⟩
            have : (cx ext (newβ β id w.heap.size) (hset h id (.arr te.size (rows ++ new))) w').β id = some w.heap.size := by simp [cx, newβ]
            rw [this]
            refine ⟨cs, e, hget, ?_, fun i r j z hi hj => ?_⟩
            · refine Nat.le_trans (Nat.mul_le_mul_right _ ?_) h4
              simp; omega
            · obtain ⟨u, h6, h7, h8⟩ := h5 i r j z hi hj
              refine ⟨u, h6, h7, h8.step (st p) ?_⟩
              rcases List.mem_append.1 (List.mem_of_getElem? hi) with hr | hr
              · exact hnmr r hr z (List.mem_of_getElem? hj)
              · exact hnn r hr z (List.mem_of_getElem? hj))
          obtain ⟨k1, k2, k3⟩ := key
          refine ⟨_, _, w', _, lift h1, .inl rfl, k1.mono fun _ => .inl, .ref _ _ _ _ _ _ _ _ h3 h3 (fun h => by cases h) fun esz' rows' hl' => ?_, .ref _ _ _ _ _ _ (.inl hid), k2, k3 p⟩
          have hl1 : lk (hset h id (.arr te.size (rows ++ new))) id = some (.arr esz' rows') := hl'
          rw [lk_hset _ hl, if_pos rfl] at hl1
          injection hl1 with hl1
          injection hl1 with q1 q2
          subst q1 q2
          refine ⟨by simp; omega, fun _ => ⟨by simp, .inr ⟨w.heap.size, by simp [cx, newβ], by simp, e, cs.size, by simp [cx, World.shape?, hget], by simpa using h4⟩⟩⟩
    · rename_i hnw
      split at hy
      · rename_i hc2
        obtain ⟨hc2, hc3⟩ := hc2
        injection hy with hy
        injection hy with e1 e2
        subst e1 e2
        have hroom : len + new.length ≤ cap := by omega
        by_cases hn0 : new.length = 0
        · have hnil : new = [] := List.length_eq_zero_iff.1 hn0
          subst hnil
          have hrun := run_nothing (P := P) (w := w) (ty := ty) hu he (base := a) (sLen := len) (sCap := cap) hcap hsx
          have hsame : ∀ j, lk (hset h id (.arr te.size (rows.take (base + len) ++ [] ++ rows.drop (base + len + ([] : List (List AVal)).length)))) j = lk h j := fun j => by
            rw [lk_hset _ hl]
            by_cases e : j = id
            · subst e; rw [if_pos rfl, List.append_nil, List.length_nil, Nat.add_zero, List.take_append_drop]; exact hl.symm
            · rw [if_neg e]
          obtain ⟨k1, k2, k3⟩ := hin.congr hsame
          refine ⟨_, _, w, β, lift hrun, .inl rfl, k1.mono fun _ => .inl, .ref _ _ _ _ _ _ _ _ (by simpa using hcap) hlo hex fun esz' rows' hl' => ?_, .ref _ _ _ _ _ _ (.inl hid), k2, k3 p⟩
          have hl1 : lk (hset h id (.arr te.size (rows.take (base + len) ++ [] ++ rows.drop (base + len + ([] : List (List AVal)).length)))) id = some (.arr esz' rows') := hl'
          rw [hsame, hl] at hl1
          injection hl1 with hl1
          injection hl1 with q1 q2
          subst q1 q2
          exact ⟨Nat.le_of_eq hsz.symm, fun _ => ⟨by simpa using hbl, Cx.RefAt.step (k3 p) rfl hat⟩⟩
        · obtain ⟨b, e', m, hb, ha, hsh, hm⟩ := room hroom (by omega)
          subst ha
          have := out_room (fresh := fresh) (ex' := ex) (c1 := c) (P := P) (s := (do pure (.value (← Builtin.append_ #[st, xt] ty #[.slice (some ⟨b, base * te.size, none⟩) len cap, vx])))) hin hl hb hsh hm (by omega) hroom rfl hrow hrv hnn hid hlo hex
            (fun cur h1 h2 => lift (run_room hu he hsx hroom h1 h2))
          have e1 : max rows.length (base + len + new.length) = sz := by omega
          rw [e1] at this
          exact this
      · split at hy
        case isFalse => cases hy
        rename_i hc2
        obtain ⟨hx1, hx2⟩ := hc2
        injection hy with hy
        injection hy with e1 e2
        subst e1 e2
        have hcc := hex hx1
        obtain ⟨cap', cs, w', h1, h2, h3, h4, h5⟩ := grown (by omega)
        have hrl : ((rows.drop base).take len ++ new).length = len + new.length := by simp; omega
        have := out_new_slice (rows := (rows.drop base).take len ++ new) (ex := false) (c0 := len + new.length) hin hpf (lift h1) h2 (fun r hr => (List.mem_append.1 hr).elim (fun hr => hrows r (List.mem_of_mem_drop (List.mem_of_mem_take hr))) (fun hr => hrow r hr)) h4
          (by rw [hrl]; exact Nat.le_trans (Nat.mul_le_mul_right _ h3) h4) h5
          (fun r hr => (List.mem_append.1 hr).elim (fun hr => hnmr r (List.mem_of_mem_drop (List.mem_of_mem_take hr))) (fun hr => hnn r hr)) (by rw [hrl]; exact Nat.le_refl _) h3 h3 (fun h => by cases h)
        rwa [hrl] at this

end
end Go.AM
