/-
  Families of objects: as many as a list has items, under numbers that follow each other.
-/
import Derived.Test.YtdgjelfeclgolaaSK
namespace Go.AM
open Go
set_option linter.unusedVariables false

section
variable {P : Program} {n0 : Nat} {Q : Exit → St → Prop} {k : List It}
/-- Numbers may be left out. -/
theorem W_raise {c : Code} {tm : List AVal} {hp : Heap} {nx : Nat} (nx' : Nat) (hle : nx ≤ nx') (h : AWP P n0 c (unw P n0 k Q) ⟨tm, hp, nx'⟩) : AWP P n0 c (unw P n0 k Q) ⟨tm, hp, nx⟩ := by
  intro ext β a w i
  have up : ∀ id, Lt nx id → Lt nx' id := fun id h => Nat.lt_of_lt_of_le h hle
  have wk : Weak n0 ⟨tm, hp, nx⟩ ⟨tm, hp, nx'⟩ := ⟨rfl, fun i x h => .inr h, fun id o h => h, fun x hx => (i.nm x hx).mono up, fun id o h => ⟨up _ (i.heap.nm id o h).1, Ob.nm_mono up (i.heap.nm id o h).2⟩, Nat.le_trans (Nat.not_lt.1 fun h => Nat.lt_irrefl _ (i.low nx h)) hle⟩
  exact (AWP_weak _ wk h) ext β a w i
end

section
variable {α : Type} [Enc α]
def famR (esz : Nat) (f : Nat → List α) (B : Nat) : Nat → Heap
  | 0 => []
  | n + 1 => (B + n, .arr esz (rws (f n))) :: famR esz f B n

theorem lk_famR {esz : Nat} {f : Nat → List α} {B : Nat} {h : Heap} {i : Nat} : ∀ {n : Nat}, i < n → lk (famR esz f B n ++ h) (B + i) = some (.arr esz (rws (f i)))
  | n + 1, hi => by
    by_cases e : i = n
    · subst e; simp [famR, lk]
    · rw [famR, List.cons_append, lk_miss (by omega)]
      exact lk_famR (by omega)
theorem lk_famR_miss {esz : Nat} {f : Nat → List α} {B : Nat} {h : Heap} {id : Nat} (hid : id < B) : ∀ {n : Nat}, lk (famR esz f B n ++ h) id = lk h id
  | 0 => rfl
  | n + 1 => by
    rw [famR, List.cons_append, lk_miss (by omega)]
    exact lk_famR_miss hid
theorem hset_famR_miss {esz : Nat} {f : Nat → List α} {B : Nat} {h : Heap} {id : Nat} {o : Ob} (hid : id < B) : ∀ {n : Nat}, hset (famR esz f B n ++ h) id o = famR esz f B n ++ hset h id o
  | 0 => rfl
  | n + 1 => by
    rw [famR, List.cons_append, hset_miss (by omega), hset_famR_miss hid]
    rfl
theorem famR_congr {esz : Nat} {f g : Nat → List α} {B : Nat} : ∀ {n : Nat}, (∀ k, k < n → f k = g k) → famR esz f B n = famR esz g B n
  | 0, _ => rfl
  | n + 1, h => by rw [famR, famR, h n (by omega), famR_congr fun k hk => h k (by omega)]
theorem hset_famR {esz : Nat} {f : Nat → List α} {B : Nat} {h : Heap} {i : Nat} {x : List α} : ∀ {n : Nat}, i < n → hset (famR esz f B n ++ h) (B + i) (.arr esz (rws x)) = famR esz (fun k => if k = i then x else f k) B n ++ h
  | n + 1, hi => by
    by_cases e : i = n
    · subst e
      rw [famR, List.cons_append, hset_hit rfl, famR, if_pos rfl, List.cons_append]
      congr 2
      exact famR_congr fun k hk => by rw [if_neg (by omega)]
    · rw [famR, List.cons_append, hset_miss (by omega), hset_famR (by omega), famR, if_neg (by omega), List.cons_append]
theorem nmH_famR {esz : Nat} {f : Nat → List α} {B m : Nat} {h : Heap} (hh : nmH m h) : ∀ {n : Nat}, B + n ≤ m → nmH m (famR esz f B n ++ h)
  | 0, _ => hh
  | n + 1, hm => ⟨by show B + n < m; omega, fun r hr x hx => Fz.nm (rws_mem _ r hr x hx) _, nmH_famR hh (by omega)⟩
theorem famR_mem {esz : Nat} {f : Nat → List α} {B : Nat} {e : Nat × Ob} : ∀ {n : Nat}, e ∈ famR esz f B n ↔ ∃ i, i < n ∧ e = (B + i, .arr esz (rws (f i)))
  | 0 => by simp [famR]
  | n + 1 => by
    rw [famR, List.mem_cons, famR_mem]
    constructor
    · rintro (rfl | ⟨i, h1, h2⟩)
      · exact ⟨n, by omega, rfl⟩
      · exact ⟨i, by omega, h2⟩
    · rintro ⟨i, h1, h2⟩
      by_cases e : i = n
      · subst e; exact .inl h2
      · exact .inr ⟨i, by omega, h2⟩
theorem famR_keys {esz : Nat} {f : Nat → List α} {B : Nat} {j : Nat} {n : Nat} : j ∈ (famR esz f B n).map (·.1) ↔ B ≤ j ∧ j < B + n := by
  rw [List.mem_map]
  constructor
  · rintro ⟨e, he, rfl⟩
    obtain ⟨i, h1, rfl⟩ := famR_mem.1 he
    simp only []; omega
  · rintro ⟨h1, h2⟩
    exact ⟨(B + (j - B), .arr esz (rws (f (j - B)))), famR_mem.2 ⟨j - B, by omega, rfl⟩, by simp only []; omega⟩
theorem renH_append (φ : Nat → Nat) : ∀ (h h' : Heap), renH φ (h ++ h') = renH φ h ++ renH φ h'
  | [], h' => rfl
  | (i, o) :: h, h' => by simp only [List.cons_append, renH, renH_append φ h h']
theorem renH_famR {esz : Nat} {f : Nat → List α} {B B' : Nat} {φ : Nat → Nat} : ∀ {n : Nat}, (∀ i, i < n → φ (B + i) = B' + i) → renH φ (famR esz f B n) = famR esz f B' n
  | 0, _ => rfl
  | n + 1, h => by
    rw [famR, famR, renH, h n (by omega), renH_famR fun i hi => h i (by omega)]
    simp only [renO, ren_rws]
theorem famR_nodup {esz : Nat} {f : Nat → List α} {B : Nat} : ∀ {n : Nat}, ((famR esz f B n).map (·.1)).Nodup
  | 0 => List.nodup_nil
  | n + 1 => by
    rw [famR, List.map_cons, List.nodup_cons]
    refine ⟨fun h => ?_, famR_nodup⟩
    rw [famR_keys] at h
    omega
attribute [go_sem] lk_famR_miss hset_famR_miss
end

/-! ### Rows by their places -/
section
variable {α : Type}
def rowsI (g : Nat → α → List AVal) (L : List α) : List (List AVal) := L.mapIdx g
def mixG (A B : Nat → α → List AVal) (i j : Nat) (l : α) : List AVal := if j < i then A j l else B j l
theorem rowsI_len (g : Nat → α → List AVal) (L : List α) : (rowsI g L).length = L.length := List.length_mapIdx
theorem rowsI_get {g : Nat → α → List AVal} {L : List α} {i : Nat} {l : α} (h : L[i]? = some l) : (rowsI g L)[i]? = some (g i l) := by
  unfold rowsI; rw [List.getElem?_mapIdx, h]; rfl
theorem rowsI_congr {g g' : Nat → α → List AVal} {L : List α} (h : ∀ i l, L[i]? = some l → g i l = g' i l) : rowsI g L = rowsI g' L := by
  apply List.ext_getElem?
  intro i
  unfold rowsI
  rw [List.getElem?_mapIdx, List.getElem?_mapIdx]
  cases e : L[i]? with
  | none => rfl
  | some l => rw [Option.map_some, Option.map_some, h i l e]
theorem rowsI_step {A B : Nat → α → List AVal} {L : List α} {i : Nat} {l : α} (h : L[i]? = some l) : (rowsI (mixG A B i) L).set i (A i l) = rowsI (mixG A B (i + 1)) L := by
  apply List.ext_getElem?
  intro j
  have hi := (List.getElem?_eq_some_iff.1 h).1
  unfold rowsI
  by_cases e : i = j
  · subst e
    rw [List.getElem?_set_self (by rw [List.length_mapIdx]; exact hi), List.getElem?_mapIdx, h, Option.map_some]
    simp [mixG]
  · rw [List.getElem?_set_ne e, List.getElem?_mapIdx, List.getElem?_mapIdx]
    cases e2 : L[j]? with
    | none => rfl
    | some x =>
      rw [Option.map_some, Option.map_some]
      simp only [mixG]
      by_cases hj : j < i
      · rw [if_pos hj, if_pos (by omega)]
      · rw [if_neg hj, if_neg (by omega)]
theorem rowsI_zero (A B : Nat → α → List AVal) (L : List α) : rowsI (mixG A B 0) L = rowsI B L := rowsI_congr fun i l _ => by simp [mixG]
theorem rowsI_all {A B : Nat → α → List AVal} {L : List α} {n : Nat} (hn : L.length ≤ n) : rowsI (mixG A B n) L = rowsI A L := rowsI_congr fun i l h => by
  have := (List.getElem?_eq_some_iff.1 h).1
  simp only [mixG]
  rw [if_pos (by omega)]
theorem rowsI_mem {g : Nat → α → List AVal} {L : List α} {r : List AVal} (h : r ∈ rowsI g L) : ∃ i l, L[i]? = some l ∧ r = g i l := by
  obtain ⟨i, hi⟩ := List.getElem?_of_mem h
  unfold rowsI at hi
  rw [List.getElem?_mapIdx] at hi
  cases e : L[i]? with
  | none => rw [e] at hi; cases hi
  | some l =>
    rw [e, Option.map_some] at hi
    injection hi with hi
    exact ⟨i, l, e, hi.symm⟩
end
theorem rowsI_rws {α : Type} [Enc α] (L : List α) : rowsI (fun _ l => Enc.enc l) L = rws L := by
  apply List.ext_getElem?
  intro i
  unfold rowsI rws
  rw [List.getElem?_mapIdx, List.getElem?_map]
attribute [go_sem] rowsI_len

theorem Can.dropL {n0 : Nat} {tm tm' : List AVal} {hp : Heap} {nx : Nat} (d : AM.dropL tm tm') : Can n0 ⟨tm, hp, nx⟩ ⟨tm', hp, nx⟩ := fun ext β a w i => ⟨β, i.weak (Drop.weak (s := ⟨tm, hp, nx⟩) (s' := ⟨tm', hp, nx⟩) ⟨d, rfl, rfl⟩ i)⟩
theorem lk_app {h1 h2 : Heap} (hh : ∀ id o, lk h1 id = some o → lk h2 id = some o) : ∀ (F : Heap) id o, lk (F ++ h1) id = some o → lk (F ++ h2) id = some o
  | [], id, o, e => hh id o e
  | (i, q) :: F, id, o, e => by
    by_cases h : i = id
    · rw [List.cons_append, lk_hit h] at e ⊢; exact e
    · rw [List.cons_append, lk_miss h] at e ⊢; exact lk_app hh F id o e

theorem lk_famR_over {α : Type} [Enc α] {esz : Nat} {f : Nat → List α} {B : Nat} {h : Heap} {id : Nat} : ∀ {n : Nat}, B + n ≤ id → lk (famR esz f B n ++ h) id = lk h id
  | 0, _ => rfl
  | n + 1, hid => by
    rw [famR, List.cons_append, lk_miss (by omega)]
    exact lk_famR_over (by omega)
/-- A pointer to a box that nobody writes any more. -/
theorem FzL.ptr1 {h h2 : Heap} {id esz : Nat} {r xs ys : List AVal} (hl : lk h id = some (.arr esz [r])) (hS : lk h2 id = none) (hz : ∀ x, x ∈ r → Fz x) (f : FzL h h2 xs ys) : FzL h h2 (.ptr id 1 0 0 :: xs) (.fp r :: ys) :=
  ⟨.inr (.inr ⟨.ptr id 1 0 0 esz [r] r r hS hl rfl rfl (by simp) fun j x x' h1 h2 => by
    rw [Nat.zero_add, h2] at h1
    injection h1 with h1
    exact h1 ▸ .refl _, .fp _ hz⟩), f⟩
end Go.AM
