/-
  AM, part 8: append and clear.
-/
import Derived.Test.YtfbmbjfcgoahfaaAM7
namespace Go.AM
open Go

/-- What a slice, or a text, is read as. -/
def rowsOf (h : Heap) : AVal → Option (List (List AVal))
  | .sl rows _ => some rows
  | .ref id sz base len _ _ =>
    match lk h id with
    | some (.arr _ rows) => if rows.length = sz then some ((rows.drop base).take len) else none
    | _ => none
  | .str s => some (s.data.toList.map fun b => [.int .u8 b.toNat])
  | _ => none

/-- Rows of the machine's values. -/
structure RowVals (c : Cx) (size : Nat) (rows : List (List AVal)) (vs : List Value) : Prop where
  len : vs.length = rows.length * size
  one : ∀ u, u ∈ vs → u.oneCell' = true
  rel : ∀ (i : Nat) r (j : Nat) y u, rows[i]? = some r → r[j]? = some y → vs[i * size + j]? = some u → VRel c y u

theorem rows_get {α : Type} {rows : List (List α)} {size : Nat} (hrow : ∀ r, r ∈ rows → r.length = size) {k : Nat} (hk : k < rows.length * size) :
    ∃ r y, rows[k / size]? = some r ∧ r[k % size]? = some y ∧ k = k / size * size + k % size := by
  have hs : 0 < size := by
    rcases Nat.eq_zero_or_pos size with h | h
    · rw [h] at hk; simp at hk
    · exact h
  have h1 : k / size < rows.length := Nat.div_lt_of_lt_mul (by rw [Nat.mul_comm]; exact hk)
  have h2 : k % size < size := Nat.mod_lt _ hs
  have h3 : rows[k / size].length = size := hrow _ (List.getElem_mem h1)
  refine ⟨rows[k / size], rows[k / size][k % size]'(by rw [h3]; exact h2), List.getElem?_eq_getElem h1, List.getElem?_eq_getElem _, ?_⟩
  have := Nat.div_add_mod k size
  rw [Nat.mul_comm] at this
  exact this.symm

/-- What is read of a slice that lies somewhere. -/
theorem src_cells {P : Program} {c : Cx} {size : Nat} {tx e' : TypeId} (hk : P.underlying tx = some (.slice e')) {rows : List (List AVal)} {a : Option Addr} {cap blk off : Nat}
    (hrow : ∀ r, r ∈ rows → r.length = size) (ha : rows ≠ [] → a = some ⟨blk, off, none⟩)
    (hcell : ∀ (i : Nat) r (j : Nat) x, rows[i]? = some r → r[j]? = some x → ∃ u, c.w.cell? ⟨blk, off + (i * size + j), none⟩ = some u ∧ u.oneCell' = true ∧ VRel c x u) :
    ∃ news, Src P size tx (.slice a rows.length cap) rows.length news c.w ∧ RowVals c size rows news := by
  let f : Nat → Value := fun k => (c.w.cell? ⟨blk, off + k, none⟩).getD undef
  let news := (List.range (rows.length * size)).map f
  have hnl : news.length = rows.length * size := by simp [news]
  have hget : ∀ (k : Nat) u, news[k]? = some u → k < rows.length * size ∧ u = f k := fun k u h => by
    have hlt := (List.getElem?_eq_some_iff.1 h).1
    rw [hnl] at hlt
    refine ⟨hlt, ?_⟩
    simp only [news, List.getElem?_map] at h
    rw [List.getElem?_range hlt] at h
    simpa using h.symm
  have hf : ∀ k, k < rows.length * size → c.w.cell? ⟨blk, off + k, none⟩ = some (f k) ∧ (f k).oneCell' = true ∧ ∀ r y, rows[k / size]? = some r → r[k % size]? = some y → VRel c y (f k) := fun k hk => by
    obtain ⟨r, y, h1, h2, h3⟩ := rows_get hrow hk
    obtain ⟨u, h4, h5, h6⟩ := hcell _ r _ y h1 h2
    rw [← h3] at h4
    have : f k = u := by simp [f, h4]
    rw [this]
    refine ⟨h4, h5, fun r' y' h7 h8 => ?_⟩
    rw [h1] at h7
    injection h7 with h7
    subst h7
    rw [h2] at h8
    injection h8 with h8
    exact h8 ▸ h6
  have hone : ∀ u, u ∈ news → u.oneCell' = true := fun u hu => by
    obtain ⟨k, hk⟩ := List.getElem?_of_mem hu
    obtain ⟨h1, rfl⟩ := hget k u hk
    exact (hf k h1).2.1
  have hrel : RowVals c size rows news := by
    refine ⟨hnl, hone, fun i r j y u h1 h2 h3 => ?_⟩
    obtain ⟨h4, rfl⟩ := hget _ u h3
    have hj : j < size := by rw [← hrow r (List.mem_of_getElem? h1)]; exact (List.getElem?_eq_some_iff.1 h2).1
    have hd : (i * size + j) / size = i := by
      rw [Nat.add_comm, Nat.add_mul_div_right _ _ (by omega), Nat.div_eq_of_lt hj]; omega
    have hm : (i * size + j) % size = j := by
      rw [Nat.add_comm, Nat.add_mul_mod_self_right, Nat.mod_eq_of_lt hj]
    exact (hf _ h4).2.2 r y (by rw [hd]; exact h1) (by rw [hm]; exact h2)
  by_cases hne : rows = []
  · subst hne
    have hn0 : news = [] := by simp [news]
    refine ⟨news, ?_, hrel⟩
    cases a with
    | none => rw [hn0]; exact Src.ofNil c.w hk cap
    | some ad => exact Src.ofSlice c.w hk ad 0 cap news (by simpa using hnl) (fun j u hj => by rw [hn0] at hj; simp at hj) hone
  · rw [ha hne]
    refine ⟨news, Src.ofSlice c.w hk _ rows.length cap news hnl (fun j u hj => ?_) hone, hrel⟩
    obtain ⟨h1, rfl⟩ := hget j u hj
    rw [addr_add]
    exact (hf j h1).1

section
variable {P : Program} {ext : Nat → Prop} {β : Nat → Option Nat} {p : Nat → Prop} {h : Heap} {w : World} {fresh : Nat}

/-- What is read of a slice of an object. -/
theorem ref_cells (hin : HIn ext β p h w) {id base len cap esz : Nat} {rows : List (List AVal)} {a : Option Addr} (hl : lk h id = some (.arr esz rows)) (hb : base + len ≤ rows.length) (hcap : len ≤ cap)
    (hat : (cx ext β h w).RefAt id esz base cap a) :
    ∃ blk, ((rows.drop base).take len ≠ [] → a = some ⟨blk, base * esz, none⟩) ∧ ∀ (i : Nat) r (j : Nat) x, ((rows.drop base).take len)[i]? = some r → r[j]? = some x →
      ∃ u, w.cell? ⟨blk, base * esz + (i * esz + j), none⟩ = some u ∧ u.oneCell' = true ∧ VRel (cx ext β h w) x u := by
  rcases hat with h0 | ⟨b, hb', ha, e, n, hsh, hn⟩
  · have : len = 0 := by omega
    subst this
    exact ⟨0, fun hh => by simp at hh, fun i r j x h1 => by simp at h1⟩
  · refine ⟨b, fun _ => ha, fun i r j x h1 h2 => ?_⟩
    rw [List.getElem?_take] at h1
    split at h1
    case isFalse => cases h1
    rw [List.getElem?_drop] at h1
    obtain ⟨_, h4⟩ := hin.ob id _ hl
    rw [hb'] at h4
    obtain ⟨cs, e', h5, _, h7⟩ := h4
    obtain ⟨u, h8, h9, h10⟩ := h7 (base + i) r j x h1 h2
    refine ⟨u, ?_, h9, h10⟩
    have h5' : w.heap[b]? = some (.cells cs e' (0, 0)) := h5
    simp only [World.cell?, h5']
    rw [← h8, Nat.add_mul, Nat.add_assoc]
    simp

/-- What may be appended to a slice: another one, or a text to bytes. -/
def srcK (P : Program) (size : Nat) (tx : TypeId) (x : AVal) : Prop :=
  (∃ s, x = .str s ∧ size = 1 ∧ P.underlying tx = some .string) ∨ ((∀ s, x ≠ .str s) ∧ ∃ e, P.underlying tx = some (.slice e))

theorem src_ok (hin : HIn ext β p h w) {size : Nat} {tx : TypeId} {x : AVal} {v : Value} {rows : List (List AVal)} (htx : srcK P size tx x)
    (hv : VRel (cx ext β h w) x v) (hn : Nm p x) (hr : rowsOf h x = some rows) (hrow : ∀ r, r ∈ rows → r.length = size) :
    (∃ news, Src P size tx v rows.length news w ∧ RowVals (cx ext β h w) size rows news) ∧ ∀ r, r ∈ rows → ∀ y, y ∈ r → Nm p y := by
  cases hv <;> simp only [rowsOf] at hr <;> try (cases hr; done)
  case str s =>
    injection hr with hr
    subst hr
    have ht : size = 1 ∧ P.underlying tx = some .string := by
      rcases htx with ⟨_, _, h'⟩ | ⟨h', _⟩
      · exact h'
      · exact absurd rfl (h' s)
    obtain ⟨hsz, ht⟩ := ht
    subst hsz
    refine ⟨⟨byteCells s, ?_, ?_⟩, fun r hr y hy => ?_⟩
    · have := Src.ofString w ht s
      have hl : (s.data.toList.map fun b => [AVal.int .u8 b.toNat]).length = s.size := by simp
      rw [hl]; exact this
    · refine ⟨by simp [byteCells], fun u hu => ?_, fun i r j y u h1 h2 h3 => ?_⟩
      · obtain ⟨b, _, rfl⟩ := List.mem_map.1 hu; rfl
      · rw [List.getElem?_map] at h1
        obtain ⟨b, hb, rfl⟩ := Option.map_eq_some_iff.1 h1
        cases j with
        | succ j => simp at h2
        | zero =>
          simp at h2
          subst h2
          have h3' : (byteCells s)[i]? = some u := by simpa using h3
          simp only [byteCells, List.getElem?_map, hb] at h3'
          injection h3' with h3'
          subst h3'
          exact .int _ _
    · obtain ⟨b, _, rfl⟩ := List.mem_map.1 hr
      rw [List.mem_singleton] at hy
      exact hy ▸ .int _ _
  case sl rows' lim a cap esz blk off vals hcap hlim hrow' ha hcell hrel =>
    injection hr with hr
    subst hr
    have hk : ∃ e, P.underlying tx = some (.slice e) := by
      rcases htx with ⟨s, h', _⟩ | ⟨_, h'⟩
      · cases h'
      · exact h'
    obtain ⟨e, ht⟩ := hk
    cases hn with | sl _ _ hn =>
    refine ⟨src_cells (c := cx ext β h w) (cap := cap) ht hrow ha (fun i r j x h1 h2 => ?_), hn⟩
    have he : esz = size := by rw [← hrow r (List.mem_of_getElem? h1)]; exact (hrow' r (List.mem_of_getElem? h1)).symm
    subst he
    exact ⟨vals i j, (hcell i r j x h1 h2).2.1, (hcell i r j x h1 h2).2.2, hrel i r j x h1 h2⟩
  case ref id sz base len ex c0 a cap hcap hlo hex hok =>
    split at hr
    case h_2 => cases hr
    rename_i esz rows0 hl
    split at hr
    case isFalse => cases hr
    rename_i hsz
    injection hr with hr
    subst hr
    have hk : ∃ e, P.underlying tx = some (.slice e) := by
      rcases htx with ⟨s, h', _⟩ | ⟨_, h'⟩
      · cases h'
      · exact h'
    obtain ⟨e, ht⟩ := hk
    obtain ⟨_, h2⟩ := hok esz rows0 hl
    obtain ⟨h3, h4⟩ := h2 hsz.symm
    obtain ⟨blk, h5, h6⟩ := ref_cells hin hl (by omega) hcap h4
    have hlen : ((rows0.drop base).take len).length = len := by simp; omega
    obtain ⟨hrows, _⟩ := hin.ob id _ hl
    have := src_cells (P := P) (c := cx ext β h w) (cap := cap) ht hrow h5 (fun i r j x h1 h2 => by
      have he : esz = size := by
        have hm := List.mem_of_getElem? h1
        rw [← hrow r hm]; exact (hrows r (List.mem_of_mem_drop (List.mem_of_mem_take hm))).symm
      subst he
      exact h6 i r j x h1 h2)
    rw [hlen] at this ⊢
    exact ⟨this, fun r hr y hy => (hin.nm id _ hl).2 r (List.mem_of_mem_drop (List.mem_of_mem_take hr)) y hy⟩

/-- An object is laid anew, in a new block, with more rows. -/
theorem HIn.move (hin : HIn ext β p h w) {w' : World} {id esz : Nat} {rows rows' : List (List AVal)} {o : Obj} (hid : lk h id = some (.arr esz rows)) (hheap : w'.heap = w.heap.push o ∧ w'.os = w.os ∧ w'.tape = w.tape ∧ w'.output = w.output) (hlt : rows.length < rows'.length)
    (hnm : ∀ r, r ∈ rows' → ∀ y, y ∈ r → Nm p y)
    (hob : (∀ q, Step q (cx ext β h w) (cx ext (newβ β id w.heap.size) (hset h id (.arr esz rows')) w')) → ObIn (cx ext (newβ β id w.heap.size) (hset h id (.arr esz rows')) w') id (.arr esz rows')) :
    HIn ext (newβ β id w.heap.size) p (hset h id (.arr esz rows')) w' ∧ Evo (owns β h) w (owns (newβ β id w.heap.size) (hset h id (.arr esz rows'))) w' ∧
    ∀ q, Step q (cx ext β h w) (cx ext (newβ β id w.heap.size) (hset h id (.arr esz rows')) w') := by
  have hold : ∀ k, k < w.heap.size → w'.heap[k]? = w.heap[k]? := fun k hk => by
    rw [hheap.1, Array.getElem?_push, if_neg (Nat.ne_of_lt hk)]
  have hlk : ∀ j, lk (hset h id (.arr esz rows')) j = if j = id then some (.arr esz rows') else lk h j := fun j => lk_hset _ hid j
  have hblt : ∀ j x c, lk h j = some x → β j = some c → c < w.heap.size := fun j x c hj hc => by
    have := hin.ob j x hj
    cases x with
    | arr esz rows =>
      obtain ⟨_, h2⟩ := this
      have hc' : (cx ext β h w).β j = some c := hc
      rw [hc'] at h2
      obtain ⟨cs, e, h3, _⟩ := h2
      exact (Array.getElem?_eq_some_iff.1 h3).1
    | mp es =>
      obtain ⟨b, ms, h1, h2, _⟩ := this
      have : b = c := by have := h1.symm.trans hc; simpa using this
      exact this ▸ (Array.getElem?_eq_some_iff.1 h2).1
  have hown : ∀ c, owns (newβ β id w.heap.size) (hset h id (.arr esz rows')) c → c = w.heap.size ∨ owns β h c := by
    rintro c ⟨j, x, h1, h2⟩
    rw [hlk] at h1
    by_cases e : j = id
    · simp only [newβ, if_pos e] at h2
      injection h2 with h2
      exact .inl h2.symm
    · simp only [newβ, if_neg e] at h1 h2
      exact .inr ⟨j, x, h1, h2⟩
  have hshape : ∀ k x, w.shape? k = some x → w'.shape? k = some x := fun k x hx => by
    have hk : k < w.heap.size := by
      rcases Nat.lt_or_ge k w.heap.size with h1 | h1
      · exact h1
      · simp [World.shape?, Array.getElem?_eq_none h1] at hx
    unfold World.shape? at *
    rw [hold k hk]; exact hx
  have hstep : ∀ q, Step q (cx ext β h w) (cx ext (newβ β id w.heap.size) (hset h id (.arr esz rows')) w') := fun q => by
    refine ⟨fun k off v hk hc => ?_, hshape, fun j _ esz1 rows1 hr => ?_, fun j _ es hr => ?_⟩
    · have hkl : k < w.heap.size := cell_lt hc
      refine ⟨fun hk' => hk (hk'.imp (fun e => e) fun h1 => ?_), (cell_of_heap (hold k hkl) off).trans hc⟩
      rcases hown k h1 with e | e
      · omega
      · exact e
    · have hr' : lk (hset h id (.arr esz rows')) j = some (.arr esz1 rows1) := hr
      rw [hlk] at hr'
      by_cases e : j = id
      · rw [if_pos e] at hr'
        injection hr' with hr'
        injection hr' with e1 e2
        subst e1 e2 e
        exact ⟨rows, hid, by omega, fun e => by omega⟩
      · rw [if_neg e] at hr'
        exact ⟨rows1, hr', Nat.le_refl _, fun _ => by simp [cx, newβ, e]⟩
    · have hr' : lk (hset h id (.arr esz rows')) j = some (.mp es) := hr
      rw [hlk] at hr'
      by_cases e : j = id
      · rw [if_pos e] at hr'; injection hr' with hr'; cases hr'
      · rw [if_neg e] at hr'
        exact ⟨es, hr', by simp [cx, newβ, e]⟩
  refine ⟨⟨fun j x hj => ?_, fun j x hj => ?_, fun j j' x x' c hj hj' hc hc' => ?_, fun c hc => ?_⟩, ?_, hstep⟩
  · rw [hlk] at hj
    by_cases e : j = id
    · rw [if_pos e] at hj
      injection hj with hj
      rw [e]
      exact hj ▸ hob hstep
    · rw [if_neg e] at hj
      exact ObIn.step (hstep p) (by simp [cx, newβ, e]) (fun c hc => hold c (hblt j x c hj hc)) (hin.nm j x hj).2 (hin.ob j x hj)
  · rw [hlk] at hj
    by_cases e : j = id
    · rw [if_pos e] at hj
      injection hj with hj
      exact ⟨e ▸ (hin.nm id _ hid).1, hj ▸ hnm⟩
    · rw [if_neg e] at hj
      exact hin.nm j x hj
  · rw [hlk] at hj hj'
    by_cases e : j = id <;> by_cases e' : j' = id
    · rw [e, e']
    · simp only [newβ, if_pos e] at hc
      simp only [newβ, if_neg e'] at hj' hc'
      injection hc with hc
      have := hblt j' x' c hj' hc'
      omega
    · simp only [newβ, if_pos e'] at hc'
      simp only [newβ, if_neg e] at hj hc
      injection hc' with hc'
      have := hblt j x c hj hc
      omega
    · simp only [newβ, if_neg e] at hj hc
      simp only [newβ, if_neg e'] at hj' hc'
      exact hin.inj j j' x x' c hj hj' hc hc'
  · have hs : w'.heap.size = w.heap.size + 1 := by rw [hheap.1]; simp
    have h1 := hin.ext c hc
    refine ⟨by omega, fun h2 => ?_⟩
    rcases hown c h2 with e | e
    · omega
    · exact h1.2 e
  · have hs : w'.heap.size = w.heap.size + 1 := by rw [hheap.1]; simp
    refine ⟨by omega, fun k hk _ => hold k hk, fun k hk h1 => ?_, hshape, hheap.2⟩
    rcases hown k h1 with e | e
    · omega
    · exact e

/-- A slice that lies wholly in rows, for the machine's look at its cells. -/
theorem firstCells_run {a : Option Addr} {size n cap : Nat} {news : List Value} {tx : TypeId} {w' : World} (hs : Src P size tx (.slice a n cap) n news w') (sLen : Nat) (he : sLen = n) (sCap : Nat) :
    (Builtin.firstCells size sLen (.slice a sLen sCap)).run P w'.drew = .ok news.toArray w'.drew := by
  subst he
  have := hs.cellsD
  cases a <;> exact this

/-- append, where there is no room: a new row. -/
theorem run_grow {st tx ty e : TypeId} {te : TI} (ht : P.underlying st = some (.slice e)) (he : tab P e = some te) {base : Option Addr} {sLen sCap : Nat} {olds : List Value}
    (hold : (Builtin.firstCells te.size sLen (.slice base sLen sCap)).run P w.drew = .ok olds.toArray w.drew) (hol : olds.length = sLen * te.size) {x : Value} {n : Nat} {news : List Value} (hs : Src P te.size tx x n news w)
    (hg : sCap < sLen + n) (hn : (sLen + n ≤ 4294967296 ∧ te.bytes ≤ 16384) ∨ (sLen + n ≤ 2199023255552 ∧ te.bytes ≤ 16)) :
    ∃ cap vs w', (Builtin.append_ #[st, tx] ty #[.slice base sLen sCap, x]).run P w = .ok (.slice (some ⟨w.heap.size, 0, none⟩) (sLen + n) cap) w' ∧ (w'.heap = w.heap.push (.cells vs e) ∧ w'.os = w.os ∧ w'.tape = w.tape ∧ w'.output = w.output) ∧ sLen + n ≤ cap ∧ cap * te.size ≤ vs.size ∧
      ∀ k, k < olds.length + news.length → vs[k]? = (olds ++ news)[k]? := by
  obtain ⟨i, d, z, h1, h2, h3, h4, h5, h6, h7, h8⟩ := tab_spec he
  rw [← h6] at hold hol hs
  have hfit : Builtin.nextslicecap (sLen + n) sCap * i.bytes ≤ 281474976710656 := growslice_fits hg (by
    rw [h7]
    rcases hn with ⟨k1, k2⟩ | ⟨k1, k2⟩
    · calc (sLen + n) * te.bytes ≤ 4294967296 * 16384 := Nat.mul_le_mul k1 k2
        _ ≤ 140737488355328 := by omega
    · calc (sLen + n) * te.bytes ≤ 2199023255552 * 16 := Nat.mul_le_mul k1 k2
        _ ≤ 140737488355328 := by omega)
  have hrun := run_append_grow_src (P := P) w st tx ty e i z ht h1 h3 base sLen sCap olds hold x n news hs hg (by omega) hfit
  have hcap : sLen + n ≤ grownCap w (sLen + n) sCap e := Nat.le_add_right _ _
  have hzs : (Builtin.zeroCells z.cells (grownCap w (sLen + n) sCap e - (sLen + n))).size = (grownCap w (sLen + n) sCap e - (sLen + n)) * i.size := by
    simp [Builtin.zeroCells, h5, h6]
  refine ⟨_, _, _, hrun, ⟨rfl, rfl, rfl, rfl⟩, hcap, ?_, fun k hk => ?_⟩
  · rw [Array.size_append, hzs]
    simp only [List.size_toArray, List.length_append, hol, hs.newsLen, h6]
    rw [← Nat.add_mul, ← Nat.add_mul]
    exact Nat.mul_le_mul_right _ (by omega)
  · rw [Array.getElem?_append, if_pos (by simpa using hk)]
    simp

/-- append, where there is room: the cells behind are written. -/
theorem run_room {st tx ty e : TypeId} {te : TI} (ht : P.underlying st = some (.slice e)) (he : tab P e = some te) {b off sLen sCap : Nat} {x : Value} {n : Nat} {news : List Value} (hs : Src P te.size tx x n news w) (hroom : sLen + n ≤ sCap)
    {cur : Array Value} {et : TypeId} (hb : w.heap[b]? = some (.cells cur et (0, 0))) (hl : off + (sLen + n) * te.size ≤ cur.size) :
    (Builtin.append_ #[st, tx] ty #[.slice (some ⟨b, off, none⟩) sLen sCap, x]).run P w =
      .ok (.slice (some ⟨b, off, none⟩) (sLen + n) sCap) (w.setRow b (cur.toList.take (off + sLen * te.size) ++ news ++ cur.toList.drop (off + sLen * te.size + news.length)).toArray) := by
  obtain ⟨i, d, z, h1, h2, h3, h4, h5, h6, h7, h8⟩ := tab_spec he
  rw [← h6] at hs hl ⊢
  have hst := run_storeCells_at (P := P) b (off + sLen * i.size) et news 0 cur w hb (by rw [hs.newsLen]; rw [Nat.add_mul] at hl; omega) hs.one
  simp only [Nat.add_zero] at hst
  rcases hs.kind with ⟨e', hk⟩ | hk <;> simp [Builtin.append_, run_underlying ht, run_underlying hk, sizeOf, typeInfo, h1, hs.len, hroom, hs.cells, addr_add, hst]

/-- append of nothing. -/
theorem run_nothing {st tx ty e : TypeId} {te : TI} (ht : P.underlying st = some (.slice e)) (he : tab P e = some te) {base : Option Addr} {sLen sCap : Nat} (hle : sLen ≤ sCap) {x : Value} {news : List Value} (hs : Src P te.size tx x 0 news w) :
    (Builtin.append_ #[st, tx] ty #[.slice base sLen sCap, x]).run P w = .ok (.slice base sLen sCap) w := by
  obtain ⟨i, d, z, h1, h2, h3, h4, h5, h6, h7, h8⟩ := tab_spec he
  rw [← h6] at hs
  have hn0 : news = [] := by have := hs.newsLen; simpa using this
  subst hn0
  rcases hs.kind with ⟨e', hk⟩ | hk <;> cases base <;> simp [Builtin.append_, run_underlying ht, run_underlying hk, sizeOf, typeInfo, h1, hs.len, hle, hs.cells, storeCells]

end
end Go.AM
