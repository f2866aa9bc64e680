/-
  AM, part 7: what lays new memory: structs out of parts, slices out of parts, make, append, clear.
-/
import Derived.Test.YtfbmbjfcgoahfaaAM6
namespace Go.AM
open Go

/-- Cells are written over by others from a place on. -/
def splice (cells : List AVal) (off : Nat) (cs : List AVal) : List AVal := cells.take off ++ cs ++ cells.drop (off + cs.length)

theorem splice_length {cells : List AVal} {off : Nat} {cs : List AVal} (h : off + cs.length ≤ cells.length) : (splice cells off cs).length = cells.length := by
  simp [splice]; omega

theorem get_splice {α : Type} (cells : List α) (off : Nat) (cs : List α) (h : off + cs.length ≤ cells.length) (k : Nat) :
    (cells.take off ++ cs ++ cells.drop (off + cs.length))[k]? = if off ≤ k ∧ k < off + cs.length then cs[k - off]? else cells[k]? := by
  have hto : (cells.take off).length = off := by simp; omega
  rw [List.append_assoc]
  by_cases h1 : k < off
  · rw [List.getElem?_append_left (by omega), if_neg (by omega), List.getElem?_take, if_pos h1]
  · rw [List.getElem?_append_right (by omega), hto]
    by_cases h2 : k < off + cs.length
    · rw [List.getElem?_append_left (by omega), if_pos ⟨by omega, h2⟩]
    · rw [List.getElem?_append_right (by omega), if_neg (by omega), List.getElem?_drop]
      have : off + cs.length + (k - off - cs.length) = k := by omega
      rw [this]

/-- The machine's way to write a part. -/
theorem foldl_put (off : Nat) : ∀ (l : List Value) (k : Nat) (cells : Array Value), off + k + l.length ≤ cells.size →
    ((l.zipIdx k).foldl (fun cs (x : Value × Nat) => cs.setIfInBounds (off + x.2) x.1) cells).size = cells.size ∧
    ∀ n, ((l.zipIdx k).foldl (fun cs (x : Value × Nat) => cs.setIfInBounds (off + x.2) x.1) cells)[n]? = if off + k ≤ n ∧ n < off + k + l.length then l[n - (off + k)]? else cells[n]?
  | [], k, cells, h => by
    refine ⟨rfl, fun n => ?_⟩
    rw [if_neg (by simp)]
    rfl
  | v :: l, k, cells, h => by
    simp only [List.zipIdx_cons, List.foldl_cons, List.length_cons] at h ⊢
    obtain ⟨h1, h2⟩ := foldl_put off l (k + 1) (cells.setIfInBounds (off + k) v) (by simp; omega)
    refine ⟨by rw [h1]; simp, fun n => ?_⟩
    rw [h2]
    by_cases e : n = off + k
    · subst e
      rw [if_neg (by omega), if_pos ⟨by omega, by omega⟩]
      have : off + k < cells.size := by omega
      simp [this]
    · by_cases hn : off + (k + 1) ≤ n ∧ n < off + (k + 1) + l.length
      · rw [if_pos hn, if_pos ⟨by omega, by omega⟩]
        have : n - (off + k) = (n - (off + (k + 1))) + 1 := by omega
        rw [this, List.getElem?_cons_succ]
      · rw [if_neg hn, if_neg (by omega), Array.getElem?_setIfInBounds_ne (by omega)]

/-- Cells of the machine are as abstract ones say. -/
structure Cells (c : Cx) (cells : List AVal) (vs : Array Value) : Prop where
  size : vs.size = cells.length
  one : ∀ (i : Nat) v, vs[i]? = some v → v.oneCell' = true
  rel : ∀ (i : Nat) x v, cells[i]? = some x → vs[i]? = some v → VRel c x v

theorem Cells.agg {c : Cx} {cells : List AVal} {vs : Array Value} (h : Cells c cells vs) : VRel c (.agg cells) (.agg vs) := .agg _ _ h.size h.one h.rel

theorem Cells.put {c : Cx} {cells cs : List AVal} {vs us : Array Value} {off : Nat} (h : Cells c cells vs) (h' : Cells c cs us) (hl : off + cs.length ≤ cells.length) :
    Cells c (splice cells off cs) ((us.zipIdx).foldl (fun a (x : Value × Nat) => a.setIfInBounds (off + x.2) x.1) vs) := by
  have e : (us.zipIdx).foldl (fun a (x : Value × Nat) => a.setIfInBounds (off + x.2) x.1) vs = (us.toList.zipIdx 0).foldl (fun a (x : Value × Nat) => a.setIfInBounds (off + x.2) x.1) vs := by
    rw [← Array.foldl_toList, Array.toList_zipIdx]
  rw [e]
  obtain ⟨h1, h2⟩ := foldl_put off us.toList 0 vs (by simp [h'.size, h.size]; omega)
  have hus : us.toList.length = cs.length := by simp [h'.size]
  refine ⟨by rw [h1, h.size, splice_length hl], fun i v hi => ?_, fun i x v hx hv => ?_⟩
  · rw [h2] at hi
    split at hi
    · exact h'.one _ v (by simpa using hi)
    · exact h.one i v hi
  · unfold splice at hx
    rw [get_splice cells off cs hl] at hx
    rw [h2, hus] at hv
    simp only [Nat.add_zero] at hv
    split at hx
    · rename_i hc
      rw [if_pos hc] at hv
      exact h'.rel _ x v hx (by simpa using hv)
    · rename_i hc
      rw [if_neg hc] at hv
      exact h.rel i x v hx hv

theorem boxCells_cells {c : Cx} {x : AVal} {v : Value} {cs : List AVal} (hv : VRel c x v) (hc : boxCells x = some cs) : Cells c cs v.cells :=
  let ⟨h1, h2, h3⟩ := boxCells_ok hv hc; ⟨h1, h2, h3⟩

/-- Parts are written, one by one. -/
def afill (place : Nat → Option (Nat × Nat)) : List AVal → List (Nat × AVal) → Option (List AVal)
  | cells, [] => some cells
  | cells, (i, x) :: rest =>
    match place i, boxCells x with
    | some (off, size), some cs => if cs.length = size ∧ off + cs.length ≤ cells.length then afill place (splice cells off cs) rest else none
    | _, _ => none

theorem afill_ok {c : Cx} {place : Nat → Option (Nat × Nat)} : ∀ (xs : List (Nat × AVal)) (ps : List (Nat × Value)) (cells r : List AVal) (vs : Array Value), xs.length = ps.length →
    (∀ (i : Nat) a b, xs[i]? = some a → ps[i]? = some b → a.1 = b.1 ∧ VRel c a.2 b.2) → Cells c cells vs → afill place cells xs = some r → ∃ us, Instr.fill place vs ps = some us ∧ Cells c r us
  | [], ps, cells, r, vs, hl, _, hc, h => by
    cases ps with
    | cons _ _ => simp at hl
    | nil => simp [afill] at h; subst h; exact ⟨vs, rfl, hc⟩
  | (i, x) :: xs, ps, cells, r, vs, hl, hr, hc, h => by
    cases ps with
    | nil => simp at hl
    | cons q ps =>
      obtain ⟨j, v⟩ := q
      obtain ⟨e, hv⟩ := hr 0 (i, x) (j, v) rfl rfl
      simp only at e hv
      subst e
      simp only [afill] at h
      split at h
      case h_2 => cases h
      rename_i off size cs hp hb
      split at h
      case isFalse => cases h
      rename_i hcond
      have hcs := boxCells_cells hv hb
      obtain ⟨us, h1, h2⟩ := afill_ok xs ps (splice cells off cs) r _ (by simpa using hl) (fun k a b h1 h2 => hr (k + 1) a b h1 h2) (hc.put hcs hcond.2) h
      refine ⟨us, ?_, h2⟩
      have hs1 : ¬ v.cells.size ≠ size := by rw [hcs.size, hcond.1]; simp
      have hs2 : ¬ (off + v.cells.size > vs.size) := by rw [hcs.size, hc.size]; omega
      have hs3 : (v.cells.size ≠ size || off + v.cells.size > vs.size) = false := by
        simp only [Bool.or_eq_false_iff, decide_eq_false_iff_not]
        exact ⟨hs1, hs2⟩
      simp only [Instr.fill, hp, hs3]
      exact h1

theorem afill_nm {p : Nat → Prop} {place : Nat → Option (Nat × Nat)} : ∀ (xs : List (Nat × AVal)) (cells r : List AVal), (∀ a, a ∈ xs → Nm p a.2) → (∀ y, y ∈ cells → Nm p y) → afill place cells xs = some r → ∀ y, y ∈ r → Nm p y
  | [], cells, r, _, hc, h => by simp [afill] at h; exact h ▸ hc
  | (i, x) :: xs, cells, r, hx, hc, h => by
    simp only [afill] at h
    split at h
    case h_2 => cases h
    rename_i off size cs hp hb
    split at h
    case isFalse => cases h
    refine afill_nm xs _ r (fun a ha => hx a (by simp [ha])) (fun y hy => ?_) h
    unfold splice at hy
    rw [List.mem_append, List.mem_append] at hy
    rcases hy with (hy | hy) | hy
    · exact hc y (List.mem_of_mem_take hy)
    · exact boxCells_nm (hx (i, x) (by simp)) hb y hy
    · exact hc y (List.mem_of_mem_drop hy)

def abuild (P : Program) (t : TypeId) (parts : List (Nat × AVal)) : Option AVal :=
  match tab P t with
  | some ⟨.struct fs, _, _, .agg z⟩ => (afill (fun i => (fs[i]?).map fun f => (f.off, f.size)) z parts).map .agg
  | some ⟨.array _ e, _, _, .agg z⟩ => match tab P e with | some te => (afill (fun i => some (i * te.size, te.size)) z parts).map .agg | none => none
  | _ => none

theorem cells_of_agg {c : Cx} {z : List AVal} {v : Value} (h : VRel c (.agg z) v) : Cells c z v.cells := by
  cases h with | agg _ vs l o r => exact ⟨l, o, r⟩

theorem mapM_map_fields {P : Program} {gs : List Field} {fs : List Fld}
    (h : gs.mapM (fun f => (P.info? f.type).bind fun i => (P.underlying f.type).map fun d => { off := f.offset, size := i.size, agg := aggD d, type := f.type, blank := f.name == "_" : Fld }) = some fs) :
    gs.mapM (fun f => (P.info? f.type).map fun i => (f.offset, i.size)) = some (fs.map fun f => (f.off, f.size)) := by
  induction gs generalizing fs with
  | nil => simp at h; subst h; rfl
  | cons g gs ih =>
    obtain ⟨f, fs', h1, h2, rfl⟩ := mapM_cons_some h
    obtain ⟨i, hi, h1⟩ := Option.bind_eq_some_iff.1 h1
    obtain ⟨d, hd, h1⟩ := Option.map_eq_some_iff.1 h1
    subst h1
    simp [List.mapM_cons, hi, ih h2]

section
variable {P : Program} {c : Cx} {p : Nat → Prop} (w : World)

theorem abuild_ok {t : TypeId} {xs : List (Nat × AVal)} {ps : Array (Nat × Value)} {y : AVal} (hl : xs.length = ps.size) (hr : ∀ (i : Nat) a b, xs[i]? = some a → ps[i]? = some b → a.1 = b.1 ∧ VRel c a.2 b.2)
    (hn : ∀ a, a ∈ xs → Nm p a.2) (hy : abuild P t xs = some y) : ∃ u, (Instr.build t ps).run P w = .ok u w ∧ VRel c y u ∧ Nm p y := by
  have hr' : ∀ (i : Nat) a b, xs[i]? = some a → ps.toList[i]? = some b → a.1 = b.1 ∧ VRel c a.2 b.2 := fun i a b h1 h2 => hr i a b h1 (by simpa using h2)
  have hl' : xs.length = ps.toList.length := by simpa using hl
  unfold abuild at hy
  split at hy
  case h_3 => cases hy
  case h_1 =>
    rename_i fs n m z ht
    obtain ⟨r, hf, rfl⟩ := Option.map_eq_some_iff.1 hy
    obtain ⟨i, d, zv, h1, h2, h3, h4, h5, h6, h7, h8⟩ := tab_spec ht
    simp only at h8
    have hz : VRel c (.agg z) zv := h8 ▸ VRel_ofV c zv
    have hzn : ∀ y, y ∈ z → Nm p y := by
      have := Fz_ofV zv
      rw [h8] at this
      cases this with | agg _ hh => exact fun y hy => Fz.nm (hh y hy) p
    obtain ⟨gs, hg, hm⟩ := kind_struct ⟨_, ht, rfl⟩
    obtain ⟨us, h9, h10⟩ := afill_ok xs ps.toList z r zv.cells hl' hr' (cells_of_agg hz) hf
    refine ⟨.agg us, run_build w t ps us ?_, h10.agg, .agg _ (afill_nm xs z r hn hzn hf)⟩
    unfold Program.built
    rw [h1, hg]
    simp only [h3, mapM_map_fields hm]
    rw [← h9]
    congr 1
    funext j
    simp
  case h_2 =>
    rename_i l e n m z ht
    split at hy
    case h_2 => cases hy
    rename_i te he
    obtain ⟨r, hf, rfl⟩ := Option.map_eq_some_iff.1 hy
    obtain ⟨i, d, zv, h1, h2, h3, h4, h5, h6, h7, h8⟩ := tab_spec ht
    simp only at h8
    have hz : VRel c (.agg z) zv := h8 ▸ VRel_ofV c zv
    have hzn : ∀ y, y ∈ z → Nm p y := by
      have := Fz_ofV zv
      rw [h8] at this
      cases this with | agg _ hh => exact fun y hy => Fz.nm (hh y hy) p
    obtain ⟨ie, _, _, q1, _, _, _, _, q6, _⟩ := tab_spec he
    obtain ⟨us, h9, h10⟩ := afill_ok xs ps.toList z r zv.cells hl' hr' (cells_of_agg hz) hf
    refine ⟨.agg us, run_build w t ps us ?_, h10.agg, .agg _ (afill_nm xs z r hn hzn hf)⟩
    unfold Program.built
    rw [h1, und_array ht]
    simp only [h3, q1]
    rw [← h9, q6]

end

/-! ### Slices out of parts -/

/-- The rows that parts make. -/
def arows (size : Nat) : List (List AVal) → List (Nat × AVal) → Option (List (List AVal))
  | rows, [] => some rows
  | rows, (i, x) :: rest =>
    match boxCells x with
    | some cs => if cs.length = size ∧ i < rows.length then arows size (rows.set i cs) rest else none
    | none => none

/-- Rows of cells, one behind the other. -/
structure Rows (c : Cx) (esz : Nat) (rows : List (List AVal)) (vs : Array Value) : Prop where
  size : vs.size = rows.length * esz
  row : ∀ r, r ∈ rows → r.length = esz
  one : ∀ (i : Nat) v, vs[i]? = some v → v.oneCell' = true
  rel : ∀ (i : Nat) r (j : Nat) x v, rows[i]? = some r → r[j]? = some x → vs[i * esz + j]? = some v → VRel c x v

theorem Rows.put {c : Cx} {esz : Nat} {rows : List (List AVal)} {vs us : Array Value} {i : Nat} {cs : List AVal} (h : Rows c esz rows vs) (h' : Cells c cs us) (hl : cs.length = esz) (hi : i < rows.length) :
    Rows c esz (rows.set i cs) ((us.zipIdx).foldl (fun a (x : Value × Nat) => a.setIfInBounds (i * esz + x.2) x.1) vs) := by
  have e : (us.zipIdx).foldl (fun a (x : Value × Nat) => a.setIfInBounds (i * esz + x.2) x.1) vs = (us.toList.zipIdx 0).foldl (fun a (x : Value × Nat) => a.setIfInBounds (i * esz + x.2) x.1) vs := by
    rw [← Array.foldl_toList, Array.toList_zipIdx]
  rw [e]
  have hb : (i + 1) * esz ≤ rows.length * esz := Nat.mul_le_mul_right esz hi
  rw [Nat.add_mul, Nat.one_mul] at hb
  have hus : us.toList.length = esz := by simp [h'.size, hl]
  obtain ⟨h1, h2⟩ := foldl_put (i * esz) us.toList 0 vs (by rw [hus, h.size]; omega)
  refine ⟨by rw [h1, h.size]; simp, fun r hr => ?_, fun k v hk => ?_, fun k r j x v hr hx hv => ?_⟩
  · rcases List.mem_or_eq_of_mem_set hr with h3 | rfl
    · exact h.row r h3
    · exact hl
  · rw [h2] at hk
    split at hk
    · exact h'.one _ v (by simpa using hk)
    · exact h.one k v hk
  · rw [h2, hus] at hv
    simp only [Nat.add_zero] at hv
    by_cases hki : k = i
    · subst hki
      rw [List.getElem?_set_self hi] at hr
      injection hr with hr
      subst hr
      have hj : j < esz := by rw [← hl]; exact (List.getElem?_eq_some_iff.1 hx).1
      rw [if_pos ⟨by omega, by omega⟩] at hv
      have : k * esz + j - k * esz = j := by omega
      rw [this] at hv
      exact h'.rel j x v hx (by simpa using hv)
    · rw [List.getElem?_set_ne (fun e => hki e.symm)] at hr
      have hj : j < esz := by have := (List.getElem?_eq_some_iff.1 hx).1; have := h.row r (List.mem_of_getElem? hr); omega
      rw [if_neg] at hv
      · exact h.rel k r j x v hr hx hv
      · rcases Nat.lt_or_gt_of_ne hki with h14 | h14
        · have : (k + 1) * esz ≤ i * esz := Nat.mul_le_mul_right esz h14
          rw [Nat.add_mul, Nat.one_mul] at this
          omega
        · have : (i + 1) * esz ≤ k * esz := Nat.mul_le_mul_right esz h14
          rw [Nat.add_mul, Nat.one_mul] at this
          omega

theorem arows_ok {c : Cx} {esz : Nat} : ∀ (xs : List (Nat × AVal)) (ps : List (Nat × Value)) (rows r : List (List AVal)) (vs : Array Value), xs.length = ps.length →
    (∀ (i : Nat) a b, xs[i]? = some a → ps[i]? = some b → a.1 = b.1 ∧ VRel c a.2 b.2) → Rows c esz rows vs → arows esz rows xs = some r →
    ∃ us, Instr.fill (fun i => some (i * esz, esz)) vs ps = some us ∧ Rows c esz r us ∧ r.length = rows.length
  | [], ps, rows, r, vs, hl, _, hc, h => by
    cases ps with
    | cons _ _ => simp at hl
    | nil => simp [arows] at h; subst h; exact ⟨vs, rfl, hc, rfl⟩
  | (i, x) :: xs, ps, rows, r, vs, hl, hr, hc, h => by
    cases ps with
    | nil => simp at hl
    | cons q ps =>
      obtain ⟨j, v⟩ := q
      obtain ⟨e, hv⟩ := hr 0 (i, x) (j, v) rfl rfl
      simp only at e hv
      subst e
      simp only [arows] at h
      split at h
      case h_2 => cases h
      rename_i cs hb
      split at h
      case isFalse => cases h
      rename_i hcond
      have hcs := boxCells_cells hv hb
      obtain ⟨us, h1, h2, h3⟩ := arows_ok xs ps (rows.set i cs) r _ (by simpa using hl) (fun k a b h1 h2 => hr (k + 1) a b h1 h2) (hc.put hcs hcond.1 hcond.2) h
      refine ⟨us, ?_, h2, by rw [h3]; simp⟩
      have hbb : (i + 1) * esz ≤ rows.length * esz := Nat.mul_le_mul_right esz hcond.2
      rw [Nat.add_mul, Nat.one_mul] at hbb
      have hs3 : (v.cells.size ≠ esz || i * esz + v.cells.size > vs.size) = false := by
        simp only [Bool.or_eq_false_iff, decide_eq_false_iff_not]
        rw [hcs.size, hcond.1, hc.size]
        exact ⟨by simp, by omega⟩
      simp only [Instr.fill, hs3]
      exact h1

theorem arows_nm {p : Nat → Prop} {esz : Nat} : ∀ (xs : List (Nat × AVal)) (rows r : List (List AVal)), (∀ a, a ∈ xs → Nm p a.2) → (∀ y, y ∈ rows → ∀ x, x ∈ y → Nm p x) → arows esz rows xs = some r → ∀ y, y ∈ r → ∀ x, x ∈ y → Nm p x
  | [], cells, r, _, hc, h => by simp [arows] at h; exact h ▸ hc
  | (i, x) :: xs, rows, r, hx, hc, h => by
    simp only [arows] at h
    split at h
    case h_2 => cases h
    rename_i cs hb
    split at h
    case isFalse => cases h
    refine arows_nm xs _ r (fun a ha => hx a (by simp [ha])) (fun y hy => ?_) h
    rcases List.mem_or_eq_of_mem_set hy with h3 | rfl
    · exact hc y h3
    · exact boxCells_nm (hx (i, x) (by simp)) hb

/-- Zero rows. -/
theorem Rows.zeros {c : Cx} {z : List AVal} {zv : Array Value} (h : Cells c z zv) (n : Nat) : Rows c z.length (List.replicate n z) ((Array.range (n * z.length)).map fun i => zv[i % zv.size]!) := by
  have hz : ∀ i, i < n * z.length → i % zv.size < zv.size := fun i hi => by
    refine Nat.mod_lt _ ?_
    rw [h.size]
    rcases Nat.eq_zero_or_pos z.length with h0 | h0
    · rw [h0] at hi; simp at hi
    · exact h0
  refine ⟨by simp, fun r hr => by rw [List.mem_replicate] at hr; rw [hr.2], fun i v hi => ?_, fun i r j x v hr hx hv => ?_⟩
  · have hlt := (Array.getElem?_eq_some_iff.1 hi).1
    simp at hlt
    rw [Array.getElem?_map, Array.getElem?_range] at hi
    simp [hlt] at hi
    have h1 := hz i hlt
    rw [getElem!_pos zv _ h1] at hi
    exact h.one _ v (by rw [Array.getElem?_eq_getElem h1, hi])
  · have hr' : i < n ∧ r = z := by
      rw [List.getElem?_replicate] at hr
      split at hr
      · rename_i hh; injection hr with hr; exact ⟨hh, hr.symm⟩
      · cases hr
    obtain ⟨hin, rfl⟩ := hr'
    have hj : j < r.length := (List.getElem?_eq_some_iff.1 hx).1
    have hlt : i * r.length + j < n * r.length := by
      have : (i + 1) * r.length ≤ n * r.length := Nat.mul_le_mul_right _ hin
      rw [Nat.add_mul, Nat.one_mul] at this
      omega
    rw [Array.getElem?_map, Array.getElem?_range] at hv
    simp [hlt] at hv
    have h1 := hz _ hlt
    rw [getElem!_pos zv _ h1] at hv
    have h2 : (i * r.length + j) % zv.size = j := by
      rw [h.size, Nat.add_comm, Nat.add_mul_mod_self_right, Nat.mod_eq_of_lt hj]
    have h3 : j < zv.size := by rw [h.size]; exact hj
    refine h.rel j x v hx ?_
    rw [Array.getElem?_eq_getElem h3]
    simp only [h2] at hv
    rw [hv]

theorem VRel_new_ref {ext : Nat → Prop} {β : Nat → Option Nat} {h : Heap} {w w' : World} {fresh esz n len cap : Nat} {rows : List (List AVal)} {e : TypeId} (hn : n = rows.length) (hlen : len ≤ n) (hc : len ≤ cap) (ex : Bool) (c0 : Nat)
    (hlo : c0 ≤ cap) (hex : ex = true → cap = c0) {m : Nat} (hshape : w'.shape? w.heap.size = some (e, m)) (hm : cap * esz ≤ m) :
    VRel (cx ext (newβ β fresh w.heap.size) ((fresh, .arr esz rows) :: h) w') (.ref fresh n 0 len ex c0) (.slice (some ⟨w.heap.size, 0, none⟩) len cap) := by
  refine .ref _ _ _ _ _ _ _ _ hc hlo hex fun esz' rows' hl => ?_
  have hl' : lk ((fresh, .arr esz rows) :: h) fresh = some (.arr esz' rows') := hl
  simp only [lk, if_true] at hl'
  injection hl' with hl'
  injection hl' with e1 e2
  subst e1 e2
  exact ⟨Nat.le_of_eq hn, fun _ => ⟨by omega, .inr ⟨w.heap.size, by simp [cx], by simp, e, m, hshape, by simpa using hm⟩⟩⟩

def abuildSlice (P : Program) (h : Heap) (fresh : Nat) (t : TypeId) (len : Nat) (parts : List (Nat × AVal)) : Option (AVal × Heap) :=
  match tab P t with
  | some ⟨.slice e, _, _, _⟩ =>
    match tab P e with
    | some te =>
      match boxCells te.zero with
      | some z =>
        if len * te.size ≤ 16777216 ∧ z.length = te.size then
          match arows te.size (List.replicate len z) parts with
          | some rows => some (.ref fresh len 0 len true len, (fresh, .arr te.size rows) :: h)
          | none => none
        else none
      | none => none
    | none => none
  | _ => none

section
variable {P : Program} {ext : Nat → Prop} {β : Nat → Option Nat} {p : Nat → Prop} {h : Heap} {w : World} {fresh : Nat}

theorem zero_cells (c : Cx) {te : TI} {t : TypeId} (ht : tab P t = some te) {z : List AVal} (hz : boxCells te.zero = some z) :
    ∃ zv, (∀ w, (zeroValue t).run P w = .ok zv w) ∧ Cells c z zv.cells ∧ ∀ y, y ∈ z → Fz y := by
  obtain ⟨i, d, zv, h1, h2, h3, h4, h5, h6, h7, h8⟩ := tab_spec ht
  refine ⟨zv, fun w => by simp [zeroValue, typeInfo, h1, h3], boxCells_cells (by rw [← h8]; exact VRel_ofV c zv) hz, boxCells_nm (by rw [← h8]; exact Fz_ofV zv) hz⟩

/-- A slice of a new row of cells. -/
theorem out_new_slice (hin : HIn ext β p h w) (hpf : ¬ p fresh) {s : Sem Next} {w' : World} {vs : Array Value} {e : TypeId} {esz : Nat} {rows : List (List AVal)} {len cap c0 : Nat} {ex : Bool}
    (hr : s.run P w = .ok (.value (.slice (some ⟨w.heap.size, 0, none⟩) len cap)) w') (hheap : w'.heap = w.heap.push (.cells vs e) ∧ w'.os = w.os ∧ w'.tape = w.tape ∧ w'.output = w.output) (hrow : ∀ r, r ∈ rows → r.length = esz) (hsz : cap * esz ≤ vs.size) (hsz' : rows.length * esz ≤ vs.size)
    (hrel : ∀ (i : Nat) r (j : Nat) y, rows[i]? = some r → r[j]? = some y → ∃ u, vs[i * esz + j]? = some u ∧ u.oneCell' = true ∧ VRel (cx ext β h w) y u)
    (hnm : ∀ r, r ∈ rows → ∀ y, y ∈ r → Nm p y) (hlen : len ≤ rows.length) (hc : len ≤ cap) (hlo : c0 ≤ cap) (hex : ex = true → cap = c0) :
    Out P ext β p h w fresh s (.ref fresh rows.length 0 len ex c0) ((fresh, .arr esz rows) :: h) :=
  out_new hin hpf hr hheap hrow hsz' hrel hnm (fun _ hshape => VRel_new_ref rfl hlen hc ex c0 hlo hex hshape hsz) (.ref _ _ _ _ _ _ (.inr rfl))

theorem Rows.get {c : Cx} {esz : Nat} {rows : List (List AVal)} {vs : Array Value} (h : Rows c esz rows vs) (i : Nat) (r : List AVal) (j : Nat) (y : AVal) (hr : rows[i]? = some r) (hy : r[j]? = some y) :
    ∃ u, vs[i * esz + j]? = some u ∧ u.oneCell' = true ∧ VRel c y u := by
  have hj : j < esz := by rw [← h.row r (List.mem_of_getElem? hr)]; exact (List.getElem?_eq_some_iff.1 hy).1
  have hi : i < rows.length := (List.getElem?_eq_some_iff.1 hr).1
  have hlt : i * esz + j < vs.size := by
    rw [h.size]
    have : (i + 1) * esz ≤ rows.length * esz := Nat.mul_le_mul_right _ hi
    rw [Nat.add_mul, Nat.one_mul] at this
    omega
  exact ⟨vs[i * esz + j], Array.getElem?_eq_getElem hlt, h.one _ _ (Array.getElem?_eq_getElem hlt), h.rel i r j y _ hr hy (Array.getElem?_eq_getElem hlt)⟩

theorem out_buildSlice (hin : HIn ext β p h w) (hpf : ¬ p fresh) {t : TypeId} {len : Nat} {xs : List (Nat × AVal)} {ps : Array (Nat × Value)} {y : AVal} {h' : Heap} (hl : xs.length = ps.size)
    (hr : ∀ (i : Nat) a b, xs[i]? = some a → ps[i]? = some b → a.1 = b.1 ∧ VRel (cx ext β h w) a.2 b.2) (hn : ∀ a, a ∈ xs → Nm p a.2) (hy : abuildSlice P h fresh t len xs = some (y, h')) :
    Out P ext β p h w fresh (do pure (.value (← Instr.buildSlice t len ps))) y h' := by
  unfold abuildSlice at hy
  split at hy
  case h_2 => cases hy
  rename_i e _ _ _ ht
  split at hy
  case h_2 => cases hy
  rename_i te he
  split at hy
  case h_2 => cases hy
  rename_i z hz
  split at hy
  case isFalse => cases hy
  rename_i hcond
  split at hy
  case h_2 => cases hy
  rename_i rows hrows
  injection hy with hy
  injection hy with e1 e2
  subst e1 e2
  obtain ⟨zv, hzr, hzc, hzn⟩ := zero_cells (cx ext β h w) he hz
  have hzz := Rows.zeros hzc len
  rw [hcond.2] at hzz
  obtain ⟨us, h1, h2, h3⟩ := arows_ok xs ps.toList _ rows _ (by simpa using hl) (fun i a b h1 h2 => hr i a b h1 (by simpa using h2)) hzz hrows
  have hlen : rows.length = len := by rw [h3]; simp
  have hrun : (do pure (.value (← Instr.buildSlice t len ps)) : Sem Next).run P w = .ok (.value (.slice (some ⟨w.heap.size, 0, none⟩) len len)) { w with heap := w.heap.push (.cells us e) } := by
    by_cases h0 : len * te.size = 0
    · have h16 : ¬ (2 ^ 24 < len * te.size) := by omega
      have hr0 : Array.range 0 = #[] := by simp [Array.range]
      rw [h0, hr0, Array.map_empty] at h1
      simp only [Instr.buildSlice, Sem.run_bind, run_underlying (und_slice ht), Result.andThen_ok, run_size w he]
      simp [h0, h1, newRow, hr0]
    · have h16 : ¬ (2 ^ 24 < len * te.size) := by omega
      simp [Instr.buildSlice, run_underlying (und_slice ht), run_size w he, h16, h0, hzr, h1, newRow]
  have := out_new_slice (rows := rows) (c0 := len) (ex := true) hin hpf hrun ⟨rfl, rfl, rfl, rfl⟩ h2.row (by rw [h2.size, hlen]; exact Nat.le_refl _) (by rw [h2.size]; exact Nat.le_refl _) (fun i r j y hi hj => h2.get i r j y hi hj)
    (arows_nm xs _ rows hn (fun r hr x hx => by rw [List.mem_replicate] at hr; exact Fz.nm (hzn x (hr.2 ▸ hx)) p) hrows) (Nat.le_of_eq hlen.symm) (Nat.le_refl _) (Nat.le_refl _) (fun _ => rfl)
  rwa [hlen] at this

def amakeSlice (P : Program) (h : Heap) (fresh : Nat) (t : TypeId) (l c : AVal) : Option (AVal × Heap) :=
  match l, c with
  | .int _ l, .int _ c =>
    match tab P t with
    | some ⟨.slice e, _, _, _⟩ =>
      match tab P e with
      | some te =>
        match boxCells te.zero with
        | some z =>
          if 0 ≤ l ∧ l ≤ c ∧ ((c ≤ 4294967296 ∧ te.bytes ≤ 16384) ∨ (c ≤ 2199023255552 ∧ te.bytes ≤ 16)) ∧ z.length = te.size then
            some (.ref fresh c.toNat 0 l.toNat true c.toNat, (fresh, .arr te.size (List.replicate c.toNat z)) :: h)
          else none
        | none => none
      | none => none
    | _ => none
  | _, _ => none

theorem out_makeSlice (hin : HIn ext β p h w) (hpf : ¬ p fresh) {t : TypeId} {l c y : AVal} {lv cv : Value} {h' : Heap} (hl : VRel (cx ext β h w) l lv) (hc : VRel (cx ext β h w) c cv) (hy : amakeSlice P h fresh t l c = some (y, h')) :
    Out P ext β p h w fresh (do pure (.value (← Instr.makeSlice t lv cv))) y h' := by
  unfold amakeSlice at hy
  split at hy
  case h_2 => cases hy
  rename_i k1 l k2 c
  cases hl; cases hc
  split at hy
  case h_2 => cases hy
  rename_i e _ _ _ ht
  split at hy
  case h_2 => cases hy
  rename_i te he
  split at hy
  case h_2 => cases hy
  rename_i z hz
  split at hy
  case isFalse => cases hy
  rename_i hcond
  obtain ⟨h0, h1, h23, h4⟩ := hcond
  have h2 : c ≤ 2199023255552 := by omega
  injection hy with hy
  injection hy with e1 e2
  subst e1 e2
  obtain ⟨zv, hzr, hzc, hzn⟩ := zero_cells (cx ext β h w) he hz
  obtain ⟨ie, hie, hbytes⟩ := run_bytes (P := P) w he
  have hzz := Rows.zeros hzc c.toNat
  rw [h4] at hzz
  have wl : IntKind.i64.wrap l = l := by unfold IntKind.wrap; simp [IntKind.signed, IntKind.bits]; omega
  have wc : IntKind.i64.wrap c = c := by unfold IntKind.wrap; simp [IntKind.signed, IntKind.bits]; omega
  have hb1 : ¬ (281474976710656 < (ie.bytes : Int) * c) := by
    rw [hbytes]
    rcases h23 with ⟨k1, k2⟩ | ⟨k1, k2⟩
    · have : (te.bytes : Int) * c ≤ 16384 * 4294967296 := Int.mul_le_mul (by omega) k1 (by omega) (by omega)
      omega
    · have : (te.bytes : Int) * c ≤ 16 * 2199023255552 := Int.mul_le_mul (by omega) k1 (by omega) (by omega)
      omega
  have hcn : ¬ (c < 0) := by omega
  have hln : ¬ (l < 0) := by omega
  have hlc : ¬ (c < l) := by omega
  have hrun : ∃ vs, (do pure (.value (← Instr.makeSlice t (.int k1 l) (.int k2 c))) : Sem Next).run P w = .ok (.value (.slice (some ⟨w.heap.size, 0, none⟩) l.toNat c.toNat)) { w with heap := w.heap.push (.cells vs e) } ∧
      Rows (cx ext β h w) te.size (List.replicate c.toNat z) vs := by
    refine ⟨_, ?_, hzz⟩
    by_cases hn0 : c.toNat * te.size = 0
    · simp only [Instr.makeSlice, Sem.run_bind, run_underlying (und_slice ht), Result.andThen_ok, asInt, asIntOf, hie, Sem.run_pure, wl, wc]
      have hr0 : Array.range 0 = #[] := by simp [Array.range]
      simp [hcn, hb1, hln, hlc, run_size w he, hn0, newRow, hr0]
    · simp only [Instr.makeSlice, Sem.run_bind, run_underlying (und_slice ht), Result.andThen_ok, asInt, asIntOf, hie, Sem.run_pure, wl, wc]
      simp [hcn, hb1, hln, hlc, run_size w he, hn0, hzr, newRow]
  obtain ⟨vs, hrun, hvs⟩ := hrun
  have hlen : (List.replicate c.toNat z).length = c.toNat := by simp
  have := out_new_slice (rows := List.replicate c.toNat z) (c0 := c.toNat) (ex := true) hin hpf hrun ⟨rfl, rfl, rfl, rfl⟩ hvs.row (by rw [hvs.size, hlen]; exact Nat.le_refl _) (by rw [hvs.size]; exact Nat.le_refl _) (fun i r j y hi hj => hvs.get i r j y hi hj)
    (fun r hr x hx => by rw [List.mem_replicate] at hr; exact Fz.nm (hzn x (hr.2 ▸ hx)) p) (by rw [hlen]; omega) (by omega) (Nat.le_refl _) (fun _ => rfl)
  rwa [hlen] at this

end
end Go.AM
