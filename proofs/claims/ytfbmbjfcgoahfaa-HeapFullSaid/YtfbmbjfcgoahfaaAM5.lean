/-
  AM, part 5: operations that look at memory or lay something new.
-/
import Derived.Test.YtfbmbjfcgoahfaaAM4
import Derived.Laws.CopyRow
import Derived.Deep.AppendSrc
namespace Go.AM
open Go

/-- An operation of the machine goes as it does over the abstract heap. -/
def Out (P : Program) (ext : Nat → Prop) (β : Nat → Option Nat) (p : Nat → Prop) (h : Heap) (w : World) (fresh : Nat) (s : Sem Next) (x : AVal) (h' : Heap) : Prop :=
  ∃ r v w' β', s.run P w = .ok r w' ∧ (r = .value v ∨ r = .skip ∧ v = undef) ∧ HIn ext β' (fun j => p j ∨ j = fresh) h' w' ∧ VRel (cx ext β' h' w') x v ∧ Nm (fun j => p j ∨ j = fresh) x ∧
    Evo (owns β h) w (owns β' h') w' ∧ Step p (cx ext β h w) (cx ext β' h' w')

theorem Ob.nm_mono {p q : Nat → Prop} (hpq : ∀ j, p j → q j) {o : Ob} (h : o.nm p) : o.nm q := by
  cases o with
  | arr esz rows => exact fun r hr y hy => (h r hr y hy).mono hpq
  | mp es => exact fun e he => ⟨(h e he).1.mono hpq, (h e he).2.mono hpq⟩

theorem HIn.mono {ext : Nat → Prop} {β : Nat → Option Nat} {p q : Nat → Prop} {h : Heap} {w : World} (hpq : ∀ j, p j → q j) (i : HIn ext β p h w) : HIn ext β q h w :=
  ⟨i.ob, fun id o ho => ⟨hpq _ (i.nm id o ho).1, Ob.nm_mono hpq (i.nm id o ho).2⟩, i.inj, i.ext⟩

section outs
variable {P : Program} {ext : Nat → Prop} {β : Nat → Option Nat} {p : Nat → Prop} {h : Heap} {w : World} {fresh : Nat}

/-- Nothing changes. -/
theorem out_pure (hin : HIn ext β p h w) {s : Sem Next} {x : AVal} {v : Value} (hr : s.run P w = .ok (.value v) w) (hv : VRel (cx ext β h w) x v) (hn : Nm p x) : Out P ext β p h w fresh s x h :=
  ⟨.value v, v, w, β, hr, .inl rfl, hin.mono fun _ => .inl, hv, hn.mono fun _ => .inl, Evo.refl _ _, Step.refl _ _⟩

/-- A draw changes nothing. -/
theorem HIn.drawn (hin : HIn ext β p h w) (n : Nat) : HIn ext β p h { w with drawn := n } ∧ Evo (owns β h) w (owns β h) { w with drawn := n } ∧ ∀ q, Step q (cx ext β h w) (cx ext β h { w with drawn := n }) := by
  have st : ∀ q, Step q (cx ext β h w) (cx ext β h { w with drawn := n }) := fun q =>
    ⟨fun _ _ _ h1 h2 => ⟨h1, h2⟩, fun _ _ h => h, fun _ _ _ rows h => ⟨rows, h, Nat.le_refl _, fun _ => rfl⟩, fun _ _ es h => ⟨es, h, rfl⟩⟩
  exact ⟨⟨fun id o ho => ObIn.step (st p) rfl (fun _ _ => rfl) (hin.nm id o ho).2 (hin.ob id o ho), hin.nm, hin.inj, hin.ext⟩, ⟨Nat.le_refl _, fun _ _ _ => rfl, fun _ _ h => h, fun _ _ h => h, rfl, rfl, rfl⟩, st⟩

/-- The block of a new object. -/
abbrev newβ (β : Nat → Option Nat) (fresh b : Nat) : Nat → Option Nat := fun j => if j = fresh then some b else β j

/-- A new row of cells. -/
theorem out_new (hin : HIn ext β p h w) (hpf : ¬ p fresh) {s : Sem Next} {w' : World} {vs : Array Value} {e : TypeId} {esz : Nat} {rows : List (List AVal)} {x : AVal} {v : Value}
    (hr : s.run P w = .ok (.value v) w') (hheap : w'.heap = w.heap.push (.cells vs e) ∧ w'.os = w.os ∧ w'.tape = w.tape ∧ w'.output = w.output) (hlen : ∀ r, r ∈ rows → r.length = esz) (hsz : rows.length * esz ≤ vs.size)
    (hrel : ∀ (i : Nat) r (j : Nat) y, rows[i]? = some r → r[j]? = some y → ∃ u, vs[i * esz + j]? = some u ∧ u.oneCell' = true ∧ VRel (cx ext β h w) y u)
    (hnm : ∀ r, r ∈ rows → ∀ y, y ∈ r → Nm p y)
    (hx : HIn ext (newβ β fresh w.heap.size) (fun j => p j ∨ j = fresh) ((fresh, .arr esz rows) :: h) w' → w'.shape? w.heap.size = some (e, vs.size) → VRel (cx ext (newβ β fresh w.heap.size) ((fresh, .arr esz rows) :: h) w') x v)
    (hn : Nm (fun j => p j ∨ j = fresh) x) : Out P ext β p h w fresh s x ((fresh, .arr esz rows) :: h) := by
  have hget : w'.heap[w.heap.size]? = some (.cells vs e (0, 0)) := by rw [hheap.1]; simp
  have key := HIn.new (w' := w') hin (id := fresh) (q := fun j => p j ∨ j = fresh) (ob := .arr esz rows) hpf (fun _ => .inl) (.inr rfl) hheap
    (fun r hr y hy => (hnm r hr y hy).mono fun _ => .inl)
    (fun st => by
      refine ⟨hlen, ?_⟩
      have : (cx ext (newβ β fresh w.heap.size) ((fresh, .arr esz rows) :: h) w').β fresh = some w.heap.size := by simp [cx]
      rw [this]
      refine ⟨vs, e, hget, hsz, fun i r j y h1 h2 => ?_⟩
      obtain ⟨u, h3, h4, h5⟩ := hrel i r j y h1 h2
      exact ⟨u, h3, h4, h5.step st (hnm r (List.mem_of_getElem? h1) y (List.mem_of_getElem? h2))⟩)
  obtain ⟨k1, k2, k3⟩ := key
  exact ⟨.value v, v, w', newβ β fresh w.heap.size, hr, .inl rfl, k1, hx k1 (by simp [World.shape?, hget]), hn, k2, k3⟩

end outs

/-! ### Cells of a value -/

def boxCells : AVal → Option (List AVal)
  | .agg cs => some cs
  | .junk => none
  | .tuple _ => none
  | x => some [x]

theorem boxCells_ok {c : Cx} {x : AVal} {v : Value} {cs : List AVal} (hv : VRel c x v) (hc : boxCells x = some cs) :
    v.cells.size = cs.length ∧ (∀ (i : Nat) u, v.cells[i]? = some u → u.oneCell' = true) ∧ (∀ (i : Nat) y u, cs[i]? = some y → v.cells[i]? = some u → VRel c y u) := by
  have one : ∀ (x : AVal) (v : Value), VRel c x v → v.oneCell' = true → v.cells = #[v] → v.cells.size = [x].length ∧ (∀ (i : Nat) u, v.cells[i]? = some u → u.oneCell' = true) ∧ (∀ (i : Nat) y u, [x][i]? = some y → v.cells[i]? = some u → VRel c y u) := by
    intro x v h1 h2 h3
    rw [h3]
    refine ⟨rfl, fun i u hu => ?_, fun i y u hy hu => ?_⟩
    · cases i with
      | zero => simp at hu; exact hu ▸ h2
      | succ i => simp at hu
    · cases i with
      | zero => simp at hu hy; exact hu ▸ hy ▸ h1
      | succ i => simp at hu
  have hv0 := hv
  cases hv <;> simp only [boxCells] at hc <;> try (cases hc; done)
  case agg cells vs l o r => injection hc with hc; subst hc; exact ⟨l, o, fun i y u h1 h2 => r i y u h1 h2⟩
  all_goals
    injection hc with hc
    subst hc
    exact one _ _ hv0 rfl rfl

theorem boxCells_nm {p : Nat → Prop} {x : AVal} {cs : List AVal} (hn : Nm p x) (hc : boxCells x = some cs) : ∀ y, y ∈ cs → Nm p y := by
  have hn0 := hn
  cases hn <;> simp only [boxCells] at hc <;> try (cases hc; done)
  case agg cells hh => injection hc with hc; subst hc; exact hh
  all_goals
    injection hc with hc
    subst hc
    intro y hy
    rw [List.mem_singleton] at hy
    exact hy ▸ hn0

section ops
variable {P : Program} {ext : Nat → Prop} {β : Nat → Option Nat} {p : Nat → Prop} {h : Heap} {w : World} {fresh : Nat}

/-- A variable of its own, with a value. -/
theorem out_box (hin : HIn ext β p h w) (hpf : ¬ p fresh) {s : Sem Next} {elem : TypeId} {x : AVal} {v : Value} {cs : List AVal} (hv : VRel (cx ext β h w) x v) (hn : Nm p x) (hc : boxCells x = some cs)
    (hs : s.run P w = ((newVar elem v).run P w).andThen fun a w' => .ok (.value (.pointer (some a))) w') : Out P ext β p h w fresh s (.ptr fresh 1 0 0) ((fresh, .arr cs.length [cs]) :: h) := by
  obtain ⟨h1, h2, h3⟩ := boxCells_ok hv hc
  have hrun : s.run P w = .ok (.value (.pointer (some ⟨w.heap.size, 0, none⟩))) { w with heap := w.heap.push (.cells v.cells elem) } := by
    rw [hs]; simp [newVar, newRow]
  refine out_new hin hpf hrun ⟨rfl, rfl, rfl, rfl⟩ (by simp) (by simp [h1]) (fun i r j y hi hj => ?_) ?_ (fun _ _ => ?_) (.ptr _ _ _ _ (.inr rfl))
  · cases i with
    | succ i => simp at hi
    | zero =>
      simp at hi
      subst hi
      have hj' : j < v.cells.size := by rw [h1]; exact (List.getElem?_eq_some_iff.1 hj).1
      exact ⟨v.cells[j], by simp [Array.getElem?_eq_getElem hj'], h2 j _ (Array.getElem?_eq_getElem hj'), h3 j y _ hj (Array.getElem?_eq_getElem hj')⟩
  · intro r hr y hy
    rw [List.mem_singleton] at hr
    subst hr
    exact boxCells_nm hn hc y hy
  · refine .ptr _ _ _ _ _ fun esz rows hl => ?_
    have hl' : lk ((fresh, .arr cs.length [cs]) :: h) fresh = some (.arr esz rows) := hl
    simp only [lk, if_true] at hl'
    injection hl' with hl'
    injection hl' with e1 e2
    subst e1 e2
    exact ⟨Nat.le_refl _, fun _ => ⟨w.heap.size, by simp [cx], by simp⟩⟩

def abox (h : Heap) (fresh : Nat) (x : AVal) : Option (AVal × Heap) :=
  match boxCells x with
  | some cs => some (.ptr fresh 1 0 0, (fresh, .arr cs.length [cs]) :: h)
  | none => none

theorem out_abox (hin : HIn ext β p h w) (hpf : ¬ p fresh) {s : Sem Next} {elem : TypeId} {x y : AVal} {v : Value} {h' : Heap} (hv : VRel (cx ext β h w) x v) (hn : Nm p x) (hy : abox h fresh x = some (y, h'))
    (hs : s.run P w = ((newVar elem v).run P w).andThen fun a w' => .ok (.value (.pointer (some a))) w') : Out P ext β p h w fresh s y h' := by
  unfold abox at hy
  split at hy
  case h_2 => cases hy
  rename_i cs hc
  injection hy with hy
  injection hy with e1 e2
  subst e1 e2
  exact out_box hin hpf hv hn hc hs

/-! ### A store -/

def astore (P : Program) (h : Heap) (t : TypeId) (x v : AVal) : Option Heap :=
  match tab P t, x, boxCells v with
  | some ti, .ptr id sz row col, some cs =>
    match lk h id with
    | some (.arr esz rows) =>
      if rows.length = sz then
        match rows[row]? with
        | some r => if cs.length = ti.size ∧ col + cs.length ≤ r.length then some (hset h id (.arr esz (rows.set row (r.take col ++ cs ++ r.drop (col + cs.length))))) else none
        | none => none
      else none
    | _ => none
  | _, _, _ => none

theorem shape_setRow {w : World} {b : Nat} {cs new : Array Value} {e : TypeId} {fr : Nat × Nat} (hb : w.heap[b]? = some (.cells cs e fr)) (hs : new.size = cs.size) (k : Nat) (x : TypeId × Nat) (h : w.shape? k = some x) :
    (w.setRow b new).shape? k = some x := by
  by_cases hk : k = b
  · subst hk
    have h2 := setRow_heap w k cs new e fr hb
    unfold World.shape? at *
    rw [h2]
    rw [hb] at h
    simpa [hs] using h
  · unfold World.shape? at *
    rw [setRow_other w b k new hk]
    exact h

theorem setRow_size (w : World) (b : Nat) (new : Array Value) : (w.setRow b new).heap.size = w.heap.size := by
  simp [World.setRow]

/-- Cells are stored into an object's row. -/
theorem out_store (hin : HIn ext β p h w) {s : Sem Next} {id sz row col esz : Nat} {rows : List (List AVal)} {r : List AVal} {ad : Addr} {cs : List AVal} {vs : List Value}
    (hv : VRel (cx ext β h w) (.ptr id sz row col) (.pointer (some ad))) (hl : lk h id = some (.arr esz rows)) (hsz : rows.length = sz) (hr : rows[row]? = some r) (hcol : col + cs.length ≤ r.length)
    (hlen : vs.length = cs.length) (hone : ∀ u, u ∈ vs → u.oneCell' = true) (hrel : ∀ (i : Nat) y u, cs[i]? = some y → vs[i]? = some u → VRel (cx ext β h w) y u) (hnm : ∀ y, y ∈ cs → Nm p y)
    (hs : ∀ w', (storeCells ad vs).run P w = .ok () w' → s.run P w = .ok .skip w') :
    Out P ext β p h w fresh s .junk (hset h id (.arr esz (rows.set row (r.take col ++ cs ++ r.drop (col + cs.length))))) := by
  cases hv with | ptr _ _ _ _ _ hok =>
  obtain ⟨_, h2⟩ := hok esz rows hl
  obtain ⟨b, hb, rfl⟩ := h2 hsz.symm
  obtain ⟨hrows, h4⟩ := hin.ob id _ hl
  rw [hb] at h4
  obtain ⟨cur, e, h5, h6, h7⟩ := h4
  have h5' : w.heap[b]? = some (.cells cur e (0, 0)) := h5
  have hb' : β id = some b := hb
  have hrl : r.length = esz := hrows r (List.mem_of_getElem? hr)
  have hrow : row < rows.length := (List.getElem?_eq_some_iff.1 hr).1
  have hin2 : (row + 1) * esz ≤ cur.size := Nat.le_trans (Nat.mul_le_mul_right esz hrow) h6
  have hin3 : row * esz + esz ≤ cur.size := by rw [Nat.add_mul, Nat.one_mul] at hin2; exact hin2
  let o := row * esz + col
  have ho : o + vs.length ≤ cur.size := by show row * esz + col + vs.length ≤ cur.size; omega
  let new : Array Value := (cur.toList.take o ++ vs ++ cur.toList.drop (o + vs.length)).toArray
  have hrun := run_storeCells_at (P := P) b o e vs 0 cur w h5' (by simpa using ho) hone
  simp only [Nat.add_zero] at hrun
  have hsize : new.size = cur.size := by simp [new]; omega
  have hnew : ∀ k, new[k]? = if o ≤ k ∧ k < o + vs.length then vs[k - o]? else cur[k]? := fun k => by
    have hto : (cur.toList.take o).length = o := by simp; omega
    show ((cur.toList.take o ++ vs ++ cur.toList.drop (o + vs.length)).toArray)[k]? = _
    rw [List.getElem?_toArray, List.append_assoc]
    by_cases h1 : k < o
    · rw [List.getElem?_append_left (by omega), if_neg (by omega), List.getElem?_take, if_pos h1]; simp
    · rw [List.getElem?_append_right (by omega), hto]
      by_cases h2 : k < o + vs.length
      · rw [List.getElem?_append_left (by omega), if_pos ⟨by omega, h2⟩]
      · rw [List.getElem?_append_right (by omega), if_neg (by omega), List.getElem?_drop]
        have : o + vs.length + (k - o - vs.length) = k := by omega
        rw [this]; simp
  have key := HIn.upd (w' := w.setRow b new) (o' := .arr esz (rows.set row (r.take col ++ cs ++ r.drop (col + cs.length)))) hin hl hb' (fun k hk => setRow_other w b k new hk) ⟨setRow_size w b new, rfl, rfl, rfl⟩ (shape_setRow h5' hsize)
    ⟨rfl, by simp⟩
    (fun r' hr' y hy => by
      rcases List.mem_or_eq_of_mem_set hr' with h8 | rfl
      · exact (hin.nm id _ hl).2 r' h8 y hy
      · rw [List.mem_append, List.mem_append] at hy
        rcases hy with (hy | hy) | hy
        · exact (hin.nm id _ hl).2 r (List.mem_of_getElem? hr) y (List.mem_of_mem_take hy)
        · exact hnm y hy
        · exact (hin.nm id _ hl).2 r (List.mem_of_getElem? hr) y (List.mem_of_mem_drop hy))
    (fun st => by
      refine ⟨fun r' hr' => ?_, ?_⟩
      · rcases List.mem_or_eq_of_mem_set hr' with h8 | rfl
        · exact hrows r' h8
        · simp; omega
      · have : (cx ext β (hset h id (.arr esz (rows.set row (r.take col ++ cs ++ r.drop (col + cs.length))))) (w.setRow b new)).β id = some b := hb'
        rw [this]
        refine ⟨new, e, setRow_heap w b cur new e (0, 0) h5', by rw [hsize]; simpa using h6, fun i r' j y hi hj => ?_⟩
        by_cases hir : i = row
        · subst hir
          rw [List.getElem?_set_self hrow] at hi
          injection hi with hi
          subst hi
          have hjl : j < esz := by have := (List.getElem?_eq_some_iff.1 hj).1; simp at this; omega
          rw [hnew]
          by_cases hc : col ≤ j ∧ j < col + cs.length
          · have hy : cs[j - col]? = some y := by
              rw [List.append_assoc, List.getElem?_append_right (by simp; omega)] at hj
              have : (r.take col).length = col := by simp; omega
              rw [this, List.getElem?_append_left (by omega)] at hj
              exact hj
            have hjv : j - col < vs.length := by omega
            rw [if_pos (show o ≤ i * esz + j ∧ i * esz + j < o + vs.length by show i * esz + col ≤ _ ∧ _ < i * esz + col + vs.length; omega)]
            have hix : i * esz + j - o = j - col := by show i * esz + j - (i * esz + col) = _; omega
            rw [hix]
            exact ⟨vs[j - col], List.getElem?_eq_getElem hjv, hone _ (List.getElem_mem hjv), (hrel (j - col) y _ hy (List.getElem?_eq_getElem hjv)).step (st p) (hnm y (List.mem_of_getElem? hy))⟩
          · have hy : r[j]? = some y := by
              by_cases h9 : j < col
              · rw [List.append_assoc, List.getElem?_append_left (by simp; omega), List.getElem?_take, if_pos h9] at hj
                exact hj
              · have h10 : col + cs.length ≤ j := by omega
                rw [List.getElem?_append_right (by simp; omega), List.getElem?_drop] at hj
                have : (r.take col ++ cs).length = col + cs.length := by simp; omega
                rw [this] at hj
                have : col + cs.length + (j - (col + cs.length)) = j := by omega
                rw [this] at hj
                exact hj
            rw [if_neg (show ¬ (o ≤ i * esz + j ∧ i * esz + j < o + vs.length) by show ¬ (i * esz + col ≤ _ ∧ _ < i * esz + col + vs.length); omega)]
            obtain ⟨u, h11, h12, h13⟩ := h7 i r j y hr hy
            exact ⟨u, h11, h12, h13.step (st p) ((hin.nm id _ hl).2 r (List.mem_of_getElem? hr) y (List.mem_of_getElem? hy))⟩
        · rw [List.getElem?_set_ne (fun e => hir e.symm)] at hi
          obtain ⟨u, h11, h12, h13⟩ := h7 i r' j y hi hj
          have hjl : j < esz := by have := (List.getElem?_eq_some_iff.1 hj).1; have := hrows r' (List.mem_of_getElem? hi); omega
          rw [hnew, if_neg]
          · exact ⟨u, h11, h12, h13.step (st p) ((hin.nm id _ hl).2 r' (List.mem_of_getElem? hi) y (List.mem_of_getElem? hj))⟩
          · show ¬ (row * esz + col ≤ i * esz + j ∧ i * esz + j < row * esz + col + vs.length)
            rcases Nat.lt_or_gt_of_ne hir with h14 | h14
            · have : (i + 1) * esz ≤ row * esz := Nat.mul_le_mul_right esz h14
              rw [Nat.add_mul, Nat.one_mul] at this
              omega
            · have : (row + 1) * esz ≤ i * esz := Nat.mul_le_mul_right esz h14
              rw [Nat.add_mul, Nat.one_mul] at this
              omega)
  obtain ⟨k1, k2, k3⟩ := key
  exact ⟨.skip, undef, w.setRow b new, β, hs _ hrun, .inr ⟨rfl, rfl⟩, k1.mono fun _ => .inl, .junk _, .junk, k2, k3 p⟩

theorem out_astore (hin : HIn ext β p h w) {t : TypeId} {x v : AVal} {h' : Heap} {a u : Value} (hx : VRel (cx ext β h w) x a) (hv : VRel (cx ext β h w) v u) (hnx : Nm p x) (hnv : Nm p v) (hy : astore P h t x v = some h') :
    Out P ext β p h w fresh (do Instr.storeAt t a u; pure .skip) .junk h' := by
  unfold astore at hy
  split at hy
  case h_2 => cases hy
  rename_i ti id sz row col cs ht hc
  split at hy
  case h_2 => cases hy
  rename_i esz rows hl
  split at hy
  case isFalse => cases hy
  rename_i hsz
  split at hy
  case h_2 => cases hy
  rename_i r hr
  split at hy
  case isFalse => cases hy
  rename_i hcond
  injection hy with hy
  subst hy
  obtain ⟨h1, h2, h3⟩ := boxCells_ok hv hc
  generalize hz : AVal.ptr id sz row col = z at hx
  cases hx <;> try (cases hz; done)
  case ptr id' sz' row' col' ad hok =>
    injection hz with e1 e2 e3 e4
    subst e1 e2 e3 e4
    refine out_store (vs := u.cells.toList) hin (.ptr _ _ _ _ ad hok) hl hsz hr hcond.2 (by simpa using h1) (fun y hy => ?_) (fun i y z hi hz => h3 i y z hi (by simpa using hz)) (boxCells_nm hnv hc) (fun w' hw' => ?_)
    · obtain ⟨i, hi⟩ := List.getElem?_of_mem hy
      exact h2 i y (by simpa using hi)
    · simp [Instr.storeAt, Instr.sureAddr, storeVar, run_size w ht, h1, hcond.1, hw']

end ops

end Go.AM
