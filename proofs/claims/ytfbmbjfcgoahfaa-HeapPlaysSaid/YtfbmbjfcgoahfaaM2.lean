/-
  The heap: what swap, up, down, Push, Remove make of it, and that its order stays; plain Lean.
-/
import Derived.Test.YtfbmbjfcgoahfaaTab
import Derived.Test.YtfbmbjfcgoahfaaM1
import Derived.Test.YtfbmbjfcgoahfaaAMF
namespace Go.Proofs.Ytfbmbjfcgoahfaa
open Go Go.AM
set_option linter.unusedVariables false
set_option linter.unusedSimpArgs false

/-- Who goes first. -/
def goesB (a b : TItem) : Bool := decide (a.key < b.key) || (decide (a.key = b.key) && decide (a.iD < b.iD))

theorem goes_t {a b : TItem} : goesB a b = true ↔ (a.key < b.key ∨ (a.key = b.key ∧ a.iD < b.iD)) := by simp [goesB]
theorem goes_f {a b : TItem} : goesB a b = false ↔ (b.key < a.key ∨ (a.key = b.key ∧ b.iD ≤ a.iD)) := by
  simp [goesB]
  omega

/-- Two places are swapped. -/
def swapL {α : Type} (l : List α) (i k : Nat) (x y : α) : List α := (l.set i y).set k x

structure HS where
  xs : List TItem
  n : Nat
  m : IM
  c : Nat

def it (s : HS) (i : Nat) : TItem := s.xs.getD i ⟨0, 0⟩
def swp (s : HS) (i k : Nat) : HS := { s with xs := swapL s.xs i k (it s i) (it s k), m := mput (it s i).iD k s.c (mput (it s k).iD i s.c s.m) }

structure Good (s : HS) : Prop where
  le : s.n ≤ s.xs.length
  len : s.xs.length ≤ 4096
  wf : ∀ x, x ∈ s.xs → x.wf
  at1 : ∀ i, i < s.n → mget (it s i).iD s.m = some (i : Int)
  at2 : ∀ id v, mget id s.m = some v → ∃ i : Nat, i < s.n ∧ v = i ∧ (it s i).iD = id
  nd : (births s.m).Nodup
  bc : ∀ b, b ∈ births s.m → b < s.c
  kd : (s.m.map (·.1)).Nodup

def Mem (s : HS) (x : TItem) : Prop := ∃ i, i < s.n ∧ it s i = x

theorem it_get {s : HS} {i : Nat} (h : i < s.xs.length) : s.xs[i]? = some (it s i) := by
  unfold it
  rw [List.getD_eq_getElem?_getD, List.getElem?_eq_getElem h]
  rfl

theorem it_of {s : HS} {i : Nat} {x : TItem} (h : s.xs[i]? = some x) : it s i = x := by
  unfold it
  rw [List.getD_eq_getElem?_getD, h]
  rfl

theorem Good.inj {s : HS} (g : Good s) {i j : Nat} (hi : i < s.n) (hj : j < s.n) (e : (it s i).iD = (it s j).iD) : i = j := by
  have h1 := g.at1 i hi
  have h2 := g.at1 j hj
  rw [e, h2] at h1
  injection h1 with h1
  omega

theorem it_swp {s : HS} {i k : Nat} (hi : i < s.xs.length) (hk : k < s.xs.length) (j : Nat) : it (swp s i k) j = if j = k then it s i else if j = i then it s k else it s j := by
  show (swapL s.xs i k (it s i) (it s k)).getD j ⟨0, 0⟩ = _
  unfold swapL
  rw [List.getD_eq_getElem?_getD]
  by_cases h1 : j = k
  · subst h1
    rw [List.getElem?_set_self (by simpa using hk), if_pos rfl]
    rfl
  · rw [List.getElem?_set_ne (fun e => h1 e.symm), if_neg h1]
    by_cases h2 : j = i
    · subst h2
      rw [List.getElem?_set_self hi, if_pos rfl]
      rfl
    · rw [List.getElem?_set_ne (fun e => h2 e.symm), if_neg h2]
      unfold it
      rw [List.getD_eq_getElem?_getD]

theorem keys_put {k v x : Int} {n : Nat} : ∀ {m : IM}, mget k m = some v → (mput k x n m).map (·.1) = m.map (·.1)
  | [], h => by cases h
  | e :: m, h => by
    simp only [mget] at h
    simp only [mput]
    split at h
    · rename_i hk
      rw [if_pos hk]
      simp [hk]
    · rename_i hk
      rw [if_neg hk]
      simp only [List.map_cons]
      rw [keys_put h]

theorem keys_new {k x : Int} {n : Nat} : ∀ {m : IM}, mget k m = none → (mput k x n m).map (·.1) = m.map (·.1) ++ [k]
  | [], _ => rfl
  | e :: m, h => by
    simp only [mget] at h
    simp only [mput]
    split at h
    · cases h
    · rename_i hk
      rw [if_neg hk]
      simp only [List.map_cons, List.cons_append]
      rw [keys_new h]

theorem mget_none {k : Int} : ∀ {m : IM}, mget k m = none → k ∉ m.map (·.1)
  | [], _ => by simp
  | e :: m, h => by
    simp only [mget] at h
    split at h
    · cases h
    · rename_i hk
      simp only [List.map_cons, List.mem_cons, not_or]
      exact ⟨hk, mget_none h⟩

theorem mget_not {k : Int} : ∀ {m : IM}, k ∉ m.map (·.1) → mget k m = none
  | [], _ => rfl
  | e :: m, h => by
    simp only [List.map_cons, List.mem_cons, not_or] at h
    simp only [mget]
    rw [if_neg h.1, mget_not h.2]

theorem mget_del {k j : Int} : ∀ {m : IM}, (m.map (·.1)).Nodup → mget j (mdel k m) = if j = k then none else mget j m
  | [], _ => by simp [mdel, mget]
  | e :: m, h => by
    simp only [List.map_cons, List.nodup_cons] at h
    simp only [mdel]
    by_cases hk : k = e.1
    · rw [if_pos hk]
      by_cases hj : j = k
      · rw [if_pos hj]
        exact mget_not (by rw [hj, hk]; exact h.1)
      · rw [if_neg hj]
        simp only [mget]
        rw [if_neg (by rw [← hk]; exact hj)]
    · rw [if_neg hk]
      simp only [mget]
      by_cases hj : j = e.1
      · rw [if_pos hj, if_pos hj, if_neg (by rw [hj]; exact fun h => hk h.symm)]
      · rw [if_neg hj, if_neg hj, mget_del h.2]

theorem mdel_sub (k : Int) : ∀ m : IM, List.Sublist (mdel k m) m
  | [] => List.Sublist.slnil
  | e :: m => by
    simp only [mdel]
    split
    · exact List.sublist_cons_self _ _
    · exact (mdel_sub k m).cons_cons _

theorem Good.swp {s : HS} (g : Good s) {i k : Nat} (hi : i < s.n) (hk : k < s.n) (hne : i ≠ k) : Good (swp s i k) := by
  have hle := g.le
  have hi' : i < s.xs.length := by omega
  have hk' : k < s.xs.length := by omega
  have hid : (it s i).iD ≠ (it s k).iD := fun e => hne (g.inj hi hk e)
  have g1 := g.at1 i hi
  have g2 := g.at1 k hk
  have g3 : mget (it s i).iD (mput (it s k).iD i s.c s.m) = some (i : Int) := by rw [mget_put, if_neg hid, g1]
  have hget : ∀ id, mget id (_root_.Go.Proofs.Ytfbmbjfcgoahfaa.swp s i k).m = if id = (it s i).iD then some (k : Int) else if id = (it s k).iD then some (i : Int) else mget id s.m := fun id => by
    show mget id (mput (it s i).iD k s.c (mput (it s k).iD i s.c s.m)) = _
    rw [mget_put, mget_put]
  have hb : births (_root_.Go.Proofs.Ytfbmbjfcgoahfaa.swp s i k).m = births s.m := by
    show births (mput (it s i).iD k s.c (mput (it s k).iD i s.c s.m)) = _
    rw [births_put g3, births_put g2]
  have hkk : (_root_.Go.Proofs.Ytfbmbjfcgoahfaa.swp s i k).m.map (·.1) = s.m.map (·.1) := by
    show (mput (it s i).iD k s.c (mput (it s k).iD i s.c s.m)).map (·.1) = _
    rw [keys_put g3, keys_put g2]
  refine ⟨?_, ?_, fun x hx => ?_, fun j hj => ?_, fun id v h => ?_, by rw [hb]; exact g.nd, by rw [hb]; exact g.bc, by rw [hkk]; exact g.kd⟩
  · show s.n ≤ (swapL s.xs i k _ _).length
    simpa [swapL] using g.le
  · show (swapL s.xs i k _ _).length ≤ 4096
    simpa [swapL] using g.len
  · have hx : x ∈ (s.xs.set i (it s k)).set k (it s i) := hx
    rcases List.mem_or_eq_of_mem_set hx with hx | rfl
    · rcases List.mem_or_eq_of_mem_set hx with hx | rfl
      · exact g.wf x hx
      · exact g.wf _ (List.mem_of_getElem? (it_get hk'))
    · exact g.wf _ (List.mem_of_getElem? (it_get hi'))
  · have hj : j < s.n := hj
    rw [it_swp hi' hk', hget]
    by_cases h1 : j = k
    · subst h1; rw [if_pos rfl, if_pos rfl]
    · rw [if_neg h1]
      by_cases h2 : j = i
      · subst h2; rw [if_pos rfl, if_neg fun e => hid e.symm, if_pos rfl]
      · rw [if_neg h2, if_neg fun e => h2 (g.inj hj hi e), if_neg fun e => h1 (g.inj hj hk e)]
        exact g.at1 j hj
  · rw [hget] at h
    split at h
    · rename_i e
      injection h with h
      refine ⟨k, hk, h.symm, ?_⟩
      rw [it_swp hi' hk', if_pos rfl, e]
    · rename_i e
      split at h
      · rename_i e2
        injection h with h
        refine ⟨i, hi, h.symm, ?_⟩
        rw [it_swp hi' hk', if_neg hne, if_pos rfl, e2]
      · rename_i e2
        obtain ⟨j, hj, h3, h4⟩ := g.at2 id v h
        refine ⟨j, hj, h3, ?_⟩
        rw [it_swp hi' hk', if_neg fun e3 => e2 (by rw [← h4, e3]), if_neg fun e3 => e (by rw [← h4, e3])]
        exact h4

theorem Mem.swp {s : HS} (g : Good s) {i k : Nat} (hi : i < s.n) (hk : k < s.n) (x : TItem) : Mem (swp s i k) x ↔ Mem s x := by
  have hle := g.le
  have hit := fun j => it_swp (s := s) (i := i) (k := k) (by omega) (by omega) j
  constructor
  · rintro ⟨j, hj, h⟩
    have hj : j < s.n := hj
    rw [hit] at h
    split at h
    · exact ⟨i, hi, h⟩
    · split at h
      · exact ⟨k, hk, h⟩
      · exact ⟨j, hj, h⟩
  · rintro ⟨j, hj, h⟩
    by_cases h1 : j = k
    · subst h1
      by_cases h2 : j = i
      · subst h2
        exact ⟨j, hj, by rw [hit, if_pos rfl]; exact h⟩
      · exact ⟨i, hi, by rw [hit, if_neg fun e => h2 e.symm, if_pos rfl]; exact h⟩
    · by_cases h2 : j = i
      · subst h2
        exact ⟨k, hk, by rw [hit, if_pos rfl]; exact h⟩
      · exact ⟨j, hj, by rw [hit, if_neg h1, if_neg h2]; exact h⟩

def upS (s : HS) (i : Nat) : HS := if h : 0 < i ∧ goesB (it s i) (it s ((i - 1) / 2)) = true then upS (swp s i ((i - 1) / 2)) ((i - 1) / 2) else s
termination_by i
decreasing_by omega

def least1 (s : HS) (i : Nat) : Nat := if 2 * i + 1 < s.n ∧ goesB (it s (2 * i + 1)) (it s i) = true then 2 * i + 1 else i
def leastS (s : HS) (i : Nat) : Nat := if 2 * i + 2 < s.n ∧ goesB (it s (2 * i + 2)) (it s (least1 s i)) = true then 2 * i + 2 else least1 s i
def downS : Nat → HS → Nat → HS
  | 0, s, _ => s
  | f + 1, s, i => if leastS s i = i then s else downS f (swp s i (leastS s i)) (leastS s i)

/-- Two states with the same things in them. -/
structure Alike (s s' : HS) : Prop where
  good : Good s'
  n : s'.n = s.n
  len : s'.xs.length = s.xs.length
  c : s'.c = s.c
  mem : ∀ x, Mem s' x ↔ Mem s x

theorem Alike.refl {s : HS} (g : Good s) : Alike s s := ⟨g, rfl, rfl, rfl, fun _ => Iff.rfl⟩
theorem Alike.trans {s s2 s3 : HS} (a : Alike s s2) (b : Alike s2 s3) : Alike s s3 := ⟨b.good, b.n.trans a.n, b.len.trans a.len, b.c.trans a.c, fun x => (b.mem x).trans (a.mem x)⟩
theorem Alike.swp {s : HS} (g : Good s) {i k : Nat} (hi : i < s.n) (hk : k < s.n) (hne : i ≠ k) : Alike s (swp s i k) :=
  ⟨g.swp hi hk hne, rfl, by show (swapL s.xs i k _ _).length = _; simp [swapL], rfl, fun x => Mem.swp g hi hk x⟩

def leS (s : HS) (a b : Nat) : Prop := goesB (it s b) (it s a) = false
def Ord (s : HS) : Prop := ∀ j, 0 < j → j < s.n → leS s ((j - 1) / 2) j
def Up (s : HS) (i : Nat) : Prop := (∀ j, 0 < j → j < s.n → j ≠ i → leS s ((j - 1) / 2) j) ∧ ∀ j, 0 < j → j < s.n → (j - 1) / 2 = i → 0 < i → leS s ((i - 1) / 2) j
def Mid (s : HS) (i : Nat) : Prop := (∀ j, 0 < j → j < s.n → j ≠ i → (j - 1) / 2 ≠ i → leS s ((j - 1) / 2) j) ∧ ∀ j, 0 < j → j < s.n → (j - 1) / 2 = i → 0 < i → leS s ((i - 1) / 2) j
def Down (s : HS) (i : Nat) : Prop := (∀ j, 0 < j → j < s.n → (j - 1) / 2 ≠ i → leS s ((j - 1) / 2) j) ∧ ∀ j, 0 < j → j < s.n → (j - 1) / 2 = i → 0 < i → leS s ((i - 1) / 2) j

theorem leS_trans {s : HS} {a b c : Nat} (h1 : leS s a b) (h2 : leS s b c) : leS s a c := by
  unfold leS at *
  rw [goes_f] at *
  omega

theorem Ord.down {s : HS} (o : Ord s) (i : Nat) (hi : i < s.n) : Down s i := ⟨fun j h1 h2 _ => o j h1 h2, fun j h1 h2 h3 h4 => by
  have := o j h1 h2
  rw [h3] at this
  exact leS_trans (o i h4 hi) this⟩

/-- One step up. -/
theorem up_step {s : HS} (g : Good s) {i : Nat} (hi : i < s.n) (h0 : 0 < i) (hg : goesB (it s i) (it s ((i - 1) / 2)) = true) (m : Mid s i) : Up (swp s i ((i - 1) / 2)) ((i - 1) / 2) := by
  have hle := g.le
  have hit := fun j => it_swp (s := s) (i := i) (k := (i - 1) / 2) (by omega) (by omega) j
  rw [goes_t] at hg
  constructor
  · intro j h1 h2 h3
    have h2 : j < s.n := h2
    unfold leS
    rw [goes_f, hit, hit, if_neg h3]
    by_cases h4 : j = i
    · subst h4
      rw [if_pos rfl, if_pos rfl]
      omega
    · rw [if_neg h4]
      by_cases h5 : (j - 1) / 2 = (i - 1) / 2
      · rw [if_pos h5]
        have := m.1 j h1 h2 h4 (by omega)
        unfold leS at this
        rw [goes_f, h5] at this
        omega
      · rw [if_neg h5]
        by_cases h6 : (j - 1) / 2 = i
        · rw [if_pos h6]
          have := m.2 j h1 h2 h6 h0
          unfold leS at this
          rw [goes_f] at this
          exact this
        · rw [if_neg h6]
          have := m.1 j h1 h2 h4 h6
          unfold leS at this
          rw [goes_f] at this
          exact this
  · intro j h1 h2 h3 h4
    have h2 : j < s.n := h2
    have hpp : leS s (((i - 1) / 2 - 1) / 2) ((i - 1) / 2) := m.1 _ h4 (by omega) (by omega) (by omega)
    unfold leS at hpp ⊢
    rw [goes_f] at hpp ⊢
    rw [hit, hit, if_neg (show ¬ j = (i - 1) / 2 by omega), if_neg (show ¬ ((i - 1) / 2 - 1) / 2 = (i - 1) / 2 by omega), if_neg (show ¬ ((i - 1) / 2 - 1) / 2 = i by omega)]
    by_cases h5 : j = i
    · rw [if_pos h5]
      exact hpp
    · rw [if_neg h5]
      have := m.1 j h1 h2 h5 (by omega)
      unfold leS at this
      rw [goes_f, h3] at this
      omega

theorem Up.mid {s : HS} {i : Nat} (u : Up s i) : Mid s i := ⟨fun j h1 h2 h3 _ => u.1 j h1 h2 h3, u.2⟩

theorem up_law : ∀ (i : Nat) (s : HS), Good s → i < s.n → Up s i → Alike s (upS s i) ∧ Ord (upS s i) := by
  intro i
  induction i using Nat.strongRecOn with
  | ind i ih =>
    intro s g hi u
    rw [upS]
    split
    · rename_i h
      have a := Alike.swp g hi (show (i - 1) / 2 < s.n by omega) (by omega)
      obtain ⟨b, o⟩ := ih ((i - 1) / 2) (by omega) _ a.good (by rw [a.n]; omega) (up_step g hi h.1 h.2 u.mid)
      exact ⟨a.trans b, o⟩
    · rename_i h
      refine ⟨.refl g, fun j h1 h2 => ?_⟩
      by_cases e : j = i
      · subst e
        unfold leS
        cases hg : goesB (it s j) (it s ((j - 1) / 2)) with
        | false => rfl
        | true => exact absurd ⟨h1, hg⟩ h
      · exact u.1 j h1 h2 e

theorem up_alike : ∀ (i : Nat) (s : HS), Good s → i < s.n → Alike s (upS s i) := by
  intro i
  induction i using Nat.strongRecOn with
  | ind i ih =>
    intro s g hi
    rw [upS]
    split
    · rename_i h
      have a := Alike.swp g hi (show (i - 1) / 2 < s.n by omega) (by omega)
      exact a.trans (ih ((i - 1) / 2) (by omega) _ a.good (by rw [a.n]; omega))
    · exact .refl g

theorem mid_law {s : HS} (g : Good s) {i : Nat} (hi : i < s.n) (m : Mid s i) : Alike s (upS s i) ∧ Down (upS s i) i := by
  by_cases h : 0 < i ∧ goesB (it s i) (it s ((i - 1) / 2)) = true
  · rw [upS, dif_pos h]
    have a := Alike.swp g hi (show (i - 1) / 2 < s.n by omega) (by omega)
    obtain ⟨b, o⟩ := up_law ((i - 1) / 2) _ a.good (by rw [a.n]; omega) (up_step g hi h.1 h.2 m)
    exact ⟨a.trans b, o.down i (by rw [b.n, a.n]; exact hi)⟩
  · rw [upS, dif_neg h]
    refine ⟨.refl g, fun j h1 h2 h3 => ?_, m.2⟩
    by_cases e : j = i
    · subst e
      unfold leS
      cases hg : goesB (it s j) (it s ((j - 1) / 2)) with
      | false => rfl
      | true => exact absurd ⟨h1, hg⟩ h
    · exact m.1 j h1 h2 e h3

/-- The least of one and those below. -/
theorem least_law (s : HS) (i : Nat) (hi : i < s.n) : (leastS s i = i ∧ ∀ j, 0 < j → j < s.n → (j - 1) / 2 = i → leS s i j) ∨
    (leastS s i < s.n ∧ i < leastS s i ∧ (leastS s i - 1) / 2 = i ∧ leS s (leastS s i) i ∧ ∀ j, 0 < j → j < s.n → (j - 1) / 2 = i → leS s (leastS s i) j) := by
  have h1 : least1 s i = i ∧ (2 * i + 1 < s.n → leS s i (2 * i + 1)) ∨ least1 s i = 2 * i + 1 ∧ 2 * i + 1 < s.n ∧ goesB (it s (2 * i + 1)) (it s i) = true := by
    unfold least1
    split
    · rename_i h; exact .inr ⟨rfl, h⟩
    · rename_i h
      refine .inl ⟨rfl, fun h2 => ?_⟩
      unfold leS
      cases hg : goesB (it s (2 * i + 1)) (it s i) with
      | false => rfl
      | true => exact absurd ⟨h2, hg⟩ h
  have h2 : leastS s i = least1 s i ∧ (2 * i + 2 < s.n → leS s (least1 s i) (2 * i + 2)) ∨ leastS s i = 2 * i + 2 ∧ 2 * i + 2 < s.n ∧ goesB (it s (2 * i + 2)) (it s (least1 s i)) = true := by
    unfold leastS
    split
    · rename_i h; exact .inr ⟨rfl, h⟩
    · rename_i h
      refine .inl ⟨rfl, fun h2 => ?_⟩
      unfold leS
      cases hg : goesB (it s (2 * i + 2)) (it s (least1 s i)) with
      | false => rfl
      | true => exact absurd ⟨h2, hg⟩ h
  have two : ∀ j, 0 < j → (j - 1) / 2 = i → j = 2 * i + 1 ∨ j = 2 * i + 2 := fun j h3 h4 => by omega
  rcases h1 with ⟨e1, q1⟩ | ⟨e1, q1, q1'⟩ <;> rcases h2 with ⟨e2, q2⟩ | ⟨e2, q2, q2'⟩
  · left
    rw [e2, e1]
    rw [e1] at q2
    refine ⟨rfl, fun j h3 h4 h5 => ?_⟩
    rcases two j h3 h5 with rfl | rfl
    · exact q1 h4
    · exact q2 h4
  · right
    rw [e1] at q2'
    rw [e2]
    refine ⟨q2, by omega, by omega, ?_, fun j h3 h4 h5 => ?_⟩
    · unfold leS; rw [goes_f]; rw [goes_t] at q2'; omega
    · rcases two j h3 h5 with rfl | rfl
      · have := q1 h4
        unfold leS at *; rw [goes_f] at *; rw [goes_t] at q2'; omega
      · unfold leS; rw [goes_f]; omega
  · right
    rw [e1] at q2
    rw [e2, e1]
    refine ⟨q1, by omega, by omega, ?_, fun j h3 h4 h5 => ?_⟩
    · unfold leS; rw [goes_f]; rw [goes_t] at q1'; omega
    · rcases two j h3 h5 with rfl | rfl
      · unfold leS; rw [goes_f]; omega
      · exact q2 h4
  · right
    rw [e1] at q2'
    rw [e2]
    refine ⟨q2, by omega, by omega, ?_, fun j h3 h4 h5 => ?_⟩
    · unfold leS; rw [goes_f]; rw [goes_t] at q1' q2'; omega
    · rcases two j h3 h5 with rfl | rfl
      · unfold leS; rw [goes_f]; rw [goes_t] at q2'; omega
      · unfold leS; rw [goes_f]; omega

theorem down_law : ∀ (f : Nat) (i : Nat) (s : HS), Good s → i < s.n → s.n ≤ f + i → Down s i → Alike s (downS f s i) ∧ Ord (downS f s i)
  | 0, i, s, g, hi, hf, d => by omega
  | f + 1, i, s, g, hi, hf, d => by
    rw [downS]
    have hle := g.le
    rcases least_law s i hi with ⟨e, h⟩ | ⟨h1, h2, h3, h4, h5⟩
    · rw [if_pos e]
      refine ⟨.refl g, fun j q1 q2 => ?_⟩
      by_cases q3 : (j - 1) / 2 = i
      · rw [q3]; exact h j q1 q2 q3
      · exact d.1 j q1 q2 q3
    · rw [if_neg (by omega)]
      generalize leastS s i = l at *
      have a := Alike.swp g hi h1 (by omega)
      have hit := fun j => it_swp (s := s) (i := i) (k := l) (by omega) (by omega) j
      obtain ⟨b, o⟩ := down_law f l _ a.good (by rw [a.n]; exact h1) (by rw [a.n]; omega) (show Down (swp s i l) l from by
        constructor
        · intro j q1 q2 q3
          have q2 : j < s.n := q2
          unfold leS
          rw [goes_f, hit, hit, if_neg q3]
          by_cases q4 : (j - 1) / 2 = i
          · rw [if_pos q4]
            by_cases q5 : j = l
            · rw [if_pos q5]
              unfold leS at h4; rw [goes_f] at h4; exact h4
            · rw [if_neg q5, if_neg (by omega)]
              have := h5 j q1 q2 q4
              unfold leS at this; rw [goes_f] at this; exact this
          · rw [if_neg q4, if_neg (show ¬ j = l by rintro rfl; exact q4 h3)]
            by_cases q6 : j = i
            · rw [if_pos q6]
              subst q6
              have := d.2 l (by omega) h1 h3 q1
              unfold leS at this; rw [goes_f] at this; exact this
            · rw [if_neg q6]
              have := d.1 j q1 q2 q4
              unfold leS at this; rw [goes_f] at this; exact this
        · intro j q1 q2 q3 q4
          have q2 : j < s.n := q2
          unfold leS
          rw [goes_f, hit, hit, if_neg (show ¬ (l - 1) / 2 = l by omega), h3, if_pos rfl, if_neg (show ¬ j = l by omega), if_neg (show ¬ j = i by omega)]
          have := d.1 j q1 q2 (by omega)
          unfold leS at this; rw [goes_f, q3] at this; exact this)
      exact ⟨a.trans b, o⟩

/-- The first one. -/
theorem ord_first {s : HS} (o : Ord s) : ∀ j, j < s.n → leS s 0 j := by
  intro j
  induction j using Nat.strongRecOn with
  | ind j ih =>
    intro hj
    by_cases h : j = 0
    · subst h; unfold leS; rw [goes_f]; omega
    · exact leS_trans (ih ((j - 1) / 2) (by omega) (by omega)) (o j (by omega) hj)

/-- Push. -/
def grown (s : HS) (x : TItem) : HS := ⟨if s.n < s.xs.length then s.xs.set s.n x else s.xs ++ [x], s.n + 1, mput x.iD s.n s.c s.m, s.c + 1⟩
def pushS (s : HS) (x : TItem) : HS × Int :=
  if (mget x.iD s.m).isSome = true then (s, 5) else if s.n ≥ 4096 then (s, 7) else (upS (grown s x) s.n, 0)

theorem it_grown {s : HS} (hle : s.n ≤ s.xs.length) (x : TItem) (j : Nat) (hj : j ≤ s.n) : it (grown s x) j = if j = s.n then x else it s j := by
  unfold it grown
  simp only []
  rw [List.getD_eq_getElem?_getD, List.getD_eq_getElem?_getD]
  split
  · rename_i h
    split
    · rename_i e
      rw [e, List.getElem?_set_self h]; rfl
    · rename_i e
      rw [List.getElem?_set_ne (fun e' => e e'.symm)]
  · rename_i h
    have : s.n = s.xs.length := by omega
    split
    · rename_i e
      rw [e, this, List.getElem?_append_right (Nat.le_refl _)]; simp
    · rename_i e
      rw [List.getElem?_append_left (by omega)]

theorem Good.grown {s : HS} (g : Good s) {x : TItem} (hx : x.wf) (hno : mget x.iD s.m = none) (hn : s.n < 4096) : Good (grown s x) := by
  have hle := g.le
  have hlen := g.len
  have hget : ∀ id, mget id (_root_.Go.Proofs.Ytfbmbjfcgoahfaa.grown s x).m = if id = x.iD then some (s.n : Int) else mget id s.m := fun id => mget_put _ _ _ _ _
  have hb : births (_root_.Go.Proofs.Ytfbmbjfcgoahfaa.grown s x).m = births s.m ++ [s.c] := births_new hno
  have hk : (_root_.Go.Proofs.Ytfbmbjfcgoahfaa.grown s x).m.map (·.1) = s.m.map (·.1) ++ [x.iD] := keys_new hno
  refine ⟨?_, ?_, fun y hy => ?_, fun j hj => ?_, fun id v h => ?_, ?_, fun b hb' => ?_, ?_⟩
  · show s.n + 1 ≤ (if s.n < s.xs.length then s.xs.set s.n x else s.xs ++ [x]).length
    split
    · simp; omega
    · simp; omega
  · show (if s.n < s.xs.length then s.xs.set s.n x else s.xs ++ [x]).length ≤ 4096
    split
    · simp; omega
    · simp; omega
  · have hy : y ∈ (if s.n < s.xs.length then s.xs.set s.n x else s.xs ++ [x]) := hy
    split at hy
    · rcases List.mem_or_eq_of_mem_set hy with hy | rfl
      · exact g.wf y hy
      · exact hx
    · rcases List.mem_append.1 hy with hy | hy
      · exact g.wf y hy
      · simp at hy; subst hy; exact hx
  · have hj : j < s.n + 1 := hj
    rw [it_grown hle x j (by omega), hget]
    by_cases e : j = s.n
    · rw [if_pos e, if_pos rfl, e]
    · rw [if_neg e, if_neg]
      · exact g.at1 j (by omega)
      · intro e2
        have := g.at1 j (by omega)
        rw [e2, hno] at this
        cases this
  · rw [hget] at h
    split at h
    · rename_i e
      injection h with h
      exact ⟨s.n, Nat.lt_succ_self _, h.symm, by rw [it_grown hle x s.n (Nat.le_refl _), if_pos rfl, e]⟩
    · rename_i e
      obtain ⟨j, hj, h3, h4⟩ := g.at2 id v h
      exact ⟨j, Nat.lt_succ_of_lt hj, h3, by rw [it_grown hle x j (by omega), if_neg (by omega)]; exact h4⟩
  · rw [hb, List.nodup_append]
    refine ⟨g.nd, by simp, fun a ha b hb2 => ?_⟩
    simp at hb2
    have := g.bc a ha
    omega
  · rw [hb] at hb'
    show b < s.c + 1
    rcases List.mem_append.1 hb' with h | h
    · have := g.bc b h; omega
    · simp at h; omega
  · rw [hk, List.nodup_append]
    refine ⟨g.kd, by simp, fun a ha b hb2 => ?_⟩
    simp at hb2
    subst hb2
    rintro rfl
    exact mget_none hno ha

/-- Whether an id is there. -/
theorem Good.has {s : HS} (g : Good s) {id v : Int} (h : mget id s.m = some v) : ∃ i : Nat, i < s.n ∧ v = i ∧ (it s i).iD = id ∧ ∀ x, Mem s x → x.iD = id → x = it s i := by
  obtain ⟨i, hi, e1, e2⟩ := g.at2 id v h
  refine ⟨i, hi, e1, e2, ?_⟩
  rintro x ⟨j, hj, rfl⟩ e
  rw [g.inj hj hi (e.trans e2.symm)]

theorem Good.hasnt {s : HS} (g : Good s) {id : Int} (h : mget id s.m = none) (x : TItem) (hx : Mem s x) : x.iD ≠ id := by
  obtain ⟨j, hj, rfl⟩ := hx
  rintro rfl
  rw [g.at1 j hj] at h
  cases h

theorem push_law {s : HS} (g : Good s) (o : Ord s) {x : TItem} (hx : x.wf) :
    ((pushS s x).2 = 5 ∧ (pushS s x).1 = s ∧ ∃ y, Mem s y ∧ y.iD = x.iD) ∨ ((pushS s x).2 = 7 ∧ (pushS s x).1 = s ∧ 4096 ≤ s.n ∧ ∀ y, Mem s y → y.iD ≠ x.iD) ∨
    ((pushS s x).2 = 0 ∧ s.n < 4096 ∧ (∀ y, Mem s y → y.iD ≠ x.iD) ∧ Good (pushS s x).1 ∧ Ord (pushS s x).1 ∧ (pushS s x).1.n = s.n + 1 ∧ ∀ y, Mem (pushS s x).1 y ↔ (y = x ∨ Mem s y)) := by
  unfold pushS
  cases h : mget x.iD s.m with
  | some v =>
    rw [if_pos (show (some v).isSome = true from rfl)]
    obtain ⟨i, hi, _, e, _⟩ := g.has h
    exact .inl ⟨rfl, rfl, it s i, ⟨i, hi, rfl⟩, e⟩
  | none =>
    rw [if_neg (by simp)]
    by_cases hn : s.n ≥ 4096
    · rw [if_pos hn]
      exact .inr (.inl ⟨rfl, rfl, hn, fun y hy => g.hasnt h y hy⟩)
    · rw [if_neg hn]
      have hn : s.n < 4096 := by omega
      have hle := g.le
      have gg := g.grown hx h hn
      have hit := fun j hj => it_grown hle x j hj
      obtain ⟨a, o2⟩ := up_law s.n (grown s x) gg (Nat.lt_succ_self _) (by
        constructor
        · intro j h1 h2 h3
          have h2 : j < s.n + 1 := h2
          unfold leS
          rw [hit j (by omega), if_neg h3, hit _ (by omega), if_neg (by omega)]
          exact o j h1 (by omega)
        · intro j h1 h2 h3 h4
          have h2 : j < s.n + 1 := h2
          omega)
      refine .inr (.inr ⟨rfl, hn, fun y hy => g.hasnt h y hy, a.good, o2, a.n, fun y => (a.mem y).trans ?_⟩)
      constructor
      · rintro ⟨j, hj, e⟩
        have hj : j < s.n + 1 := hj
        rw [hit j (by omega)] at e
        split at e
        · exact .inl e.symm
        · exact .inr ⟨j, by omega, e⟩
      · rintro (rfl | ⟨j, hj, e⟩)
        · exact ⟨s.n, Nat.lt_succ_self _, by rw [hit _ (Nat.le_refl _), if_pos rfl]⟩
        · exact ⟨j, Nat.lt_succ_of_lt hj, by rw [hit j (by omega), if_neg (by omega)]; exact e⟩

/-- Remove. -/
def shrunk (s : HS) (id : Int) (i : Nat) : HS :=
  let s1 := if i = s.n - 1 then s else swp s i (s.n - 1)
  ⟨s1.xs, s.n - 1, mdel id s1.m, s.c⟩
def removeS (s : HS) (id : Int) : HS × Int :=
  match mget id s.m with
  | none => (s, 6)
  | some v => (if v.toNat < s.n - 1 then downS (s.n - 1) (upS (shrunk s id v.toNat) v.toNat) v.toNat else shrunk s id v.toNat, 0)

theorem shrunk_law {s : HS} (g : Good s) {id : Int} {i : Nat} (hi : i < s.n) (e : (it s i).iD = id) : Good (shrunk s id i) ∧ (∀ x, Mem (shrunk s id i) x ↔ (Mem s x ∧ x.iD ≠ id)) ∧
    ∀ j, j < s.n - 1 → it (shrunk s id i) j = if j = i then it s (s.n - 1) else it s j := by
  have hle := g.le
  obtain ⟨s1, hs1⟩ : ∃ s1, s1 = if i = s.n - 1 then s else swp s i (s.n - 1) := ⟨_, rfl⟩
  have hsh : shrunk s id i = ⟨s1.xs, s.n - 1, mdel id s1.m, s.c⟩ := by rw [hs1]; rfl
  have ha : Alike s s1 := by
    rw [hs1]
    split
    · exact .refl g
    · rename_i h; exact .swp g hi (by omega) h
  have hit : ∀ j, it s1 j = if j = s.n - 1 then it s i else if j = i then it s (s.n - 1) else it s j := fun j => by
    rw [hs1]
    split
    · rename_i h
      subst h
      split
      · rename_i h2; rw [h2]
      · rfl
    · exact it_swp (by omega) (by omega) j
  have g1 := ha.good
  have hid : ∀ j, j < s.n - 1 → (it s1 j).iD ≠ id := fun j hj e2 => by
    have h2 : (it s1 (s.n - 1)).iD = id := by rw [hit, if_pos rfl, e]
    have := g1.inj (i := j) (j := s.n - 1) (by rw [ha.n]; omega) (by rw [ha.n]; omega) (e2.trans h2.symm)
    omega
  have hget : ∀ k, mget k (mdel id s1.m) = if k = id then none else mget k s1.m := fun k => mget_del g1.kd
  rw [hsh]
  refine ⟨⟨?_, ?_, g1.wf, fun j hj => ?_, fun k v h => ?_, ?_, ?_, ?_⟩, fun x => ⟨?_, ?_⟩, fun j hj => ?_⟩
  · show s.n - 1 ≤ s1.xs.length
    rw [ha.len]; omega
  · show s1.xs.length ≤ 4096
    rw [ha.len]; exact g.len
  · have hj : j < s.n - 1 := hj
    show mget (it s1 j).iD (mdel id s1.m) = _
    rw [hget, if_neg (hid j hj)]
    exact g1.at1 j (by rw [ha.n]; omega)
  · have h : mget k (mdel id s1.m) = some v := h
    rw [hget] at h
    split at h
    · cases h
    · rename_i hk
      obtain ⟨j, hj, h3, h4⟩ := g1.at2 k v h
      rw [ha.n] at hj
      refine ⟨j, ?_, h3, h4⟩
      show j < s.n - 1
      rcases Nat.lt_or_ge j (s.n - 1) with h5 | h5
      · exact h5
      · exfalso
        have : j = s.n - 1 := by omega
        rw [this, hit, if_pos rfl, e] at h4
        exact hk h4.symm
  · exact List.Nodup.sublist ((mdel_sub id s1.m).map _) g1.nd
  · intro b hb
    have := g1.bc b (((mdel_sub id s1.m).map _).subset hb)
    rwa [ha.c] at this
  · exact List.Nodup.sublist ((mdel_sub id s1.m).map _) g1.kd
  · rintro ⟨j, hj, e2⟩
    have hj : j < s.n - 1 := hj
    have e2 : it s1 j = x := e2
    exact ⟨(ha.mem x).1 ⟨j, by rw [ha.n]; omega, e2⟩, by rw [← e2]; exact hid j hj⟩
  · rintro ⟨h1, h2⟩
    obtain ⟨j, hj, e2⟩ := (ha.mem x).2 h1
    rw [ha.n] at hj
    refine ⟨j, ?_, e2⟩
    show j < s.n - 1
    rcases Nat.lt_or_ge j (s.n - 1) with h5 | h5
    · exact h5
    · exfalso
      have : j = s.n - 1 := by omega
      rw [this, hit, if_pos rfl] at e2
      exact h2 (by rw [← e2, e])
  · show it s1 j = _
    rw [hit, if_neg (by omega)]

theorem remove_law {s : HS} (g : Good s) (o : Ord s) (id : Int) :
    ((removeS s id).2 = 6 ∧ (removeS s id).1 = s ∧ ∀ y, Mem s y → y.iD ≠ id) ∨
    ((removeS s id).2 = 0 ∧ (∃ y, Mem s y ∧ y.iD = id) ∧ 0 < s.n ∧ Good (removeS s id).1 ∧ Ord (removeS s id).1 ∧ (removeS s id).1.n = s.n - 1 ∧ ∀ y, Mem (removeS s id).1 y ↔ (Mem s y ∧ y.iD ≠ id)) := by
  unfold removeS
  cases h : mget id s.m with
  | none => exact .inl ⟨rfl, rfl, fun y hy => g.hasnt h y hy⟩
  | some v =>
    obtain ⟨i, hi, rfl, e, _⟩ := g.has h
    simp only [Int.toNat_natCast]
    obtain ⟨g2, m2, it2⟩ := shrunk_law g hi e
    right
    refine ⟨trivial, ⟨it s i, ⟨i, hi, rfl⟩, e⟩, by omega, ?_⟩
    by_cases hl : i < s.n - 1
    · rw [if_pos hl]
      have hn2 : (shrunk s id i).n = s.n - 1 := rfl
      obtain ⟨a, d⟩ := mid_law g2 (i := i) hl (by
        constructor
        · intro j h1 h2 h3 h4
          have h2 : j < s.n - 1 := h2
          unfold leS
          rw [it2 j h2, if_neg h3, it2 _ (by omega), if_neg h4]
          exact o j h1 (by omega)
        · intro j h1 h2 h3 h4
          have h2 : j < s.n - 1 := h2
          unfold leS
          rw [it2 j h2, if_neg (by omega), it2 _ (by omega), if_neg (by omega)]
          have q1 := o j h1 (by omega)
          rw [h3] at q1
          exact leS_trans (o i h4 (by omega)) q1)
      obtain ⟨b, o2⟩ := down_law (s.n - 1) i _ a.good (by rw [a.n, hn2]; exact hl) (by rw [a.n, hn2]; omega) d
      have c := a.trans b
      exact ⟨c.good, o2, by rw [c.n, hn2], fun y => (c.mem y).trans (m2 y)⟩
    · rw [if_neg hl]
      refine ⟨g2, fun j h1 h2 => ?_, rfl, m2⟩
      have h2 : j < s.n - 1 := h2
      unfold leS
      rw [it2 j h2, if_neg (by omega), it2 _ (by omega), if_neg (by omega)]
      exact o j h1 (by omega)

def zItem : TItem := ⟨0, 0⟩
def peekS (s : HS) : TItem × Bool := if s.n = 0 then (zItem, false) else (it s 0, true)
def getS (s : HS) (id : Int) : TItem × Bool := match mget id s.m with | none => (zItem, false) | some v => (it s v.toNat, true)
def popS (s : HS) : HS × (TItem × Bool) := if s.n = 0 then (s, (zItem, false)) else ((removeS s (it s 0).iD).1, (it s 0, true))
def changeS (s : HS) (x : TItem) : HS × Int := match mget x.iD s.m with | none => (s, 6) | some _ => pushS (removeS s x.iD).1 x
def newS : HS := ⟨[], 0, [], 0⟩

theorem new_good : Good newS ∧ Ord newS := ⟨⟨Nat.le_refl _, by decide, fun x hx => (nomatch hx), fun i hi => absurd hi (Nat.not_lt_zero i), fun id v h => (nomatch h), List.nodup_nil, fun b hb => (nomatch hb), List.nodup_nil⟩, fun j h1 h2 => absurd h2 (Nat.not_lt_zero j)⟩

end Go.Proofs.Ytfbmbjfcgoahfaa
