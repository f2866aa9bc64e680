/-
  Parts by shares: sorting by what was lost, the first ones have one more: plain laws.
-/
import Derived.Test.YteajjckbjgmhaaaM2
namespace Go.Proofs.Yteajjckbjgmhaaa

/-- A place, and what it lost. -/
abbrev Rs := Int × Int
abbrev ge (X : List Rs) (a : Nat) : Rs := X.getD a (0, 0)

def swp (X : List Rs) (j : Nat) : List Rs := (X.set (j + 1) (ge X j)).set j (ge X (j + 1))
def sift : Nat → List Rs → List Rs
  | 0, X => X
  | j + 1, X => if (ge X j).2 < (ge X (j + 1)).2 then sift j (swp X j) else X
def srt (L : List Rs) : Nat → List Rs
  | 0 => L
  | k + 1 => sift (k + 1) (srt L k)

def lt (e f : Rs) : Prop := f.2 < e.2 ∨ (e.2 = f.2 ∧ e.1 < f.1)
def Srt (X : List Rs) (m : Nat) : Prop := ∀ a b, a < b → b < m → lt (ge X a) (ge X b)

theorem swp_length (X : List Rs) (j : Nat) : (swp X j).length = X.length := by simp [swp]
theorem sift_length : ∀ (j : Nat) (X : List Rs), (sift j X).length = X.length
  | 0, X => rfl
  | j + 1, X => by
    unfold sift
    split
    · rw [sift_length j, swp_length]
    · rfl
theorem srt_length (L : List Rs) : ∀ k, (srt L k).length = L.length
  | 0 => rfl
  | k + 1 => by
    show (sift (k + 1) (srt L k)).length = _
    rw [sift_length, srt_length L k]

theorem ge_set {X : List Rs} {k i : Nat} {v : Rs} (hk : k < X.length) : ge (X.set k v) i = if i = k then v else ge X i := by
  simp only [ge, List.getD_eq_getElem?_getD, List.getElem?_set]
  by_cases h : k = i
  · subst h
    simp [hk]
  · rw [if_neg h, if_neg (fun e => h e.symm)]

theorem ge_swp {X : List Rs} {j : Nat} (hj : j + 1 < X.length) (a : Nat) : ge (swp X j) a = if a = j then ge X (j + 1) else if a = j + 1 then ge X j else ge X a := by
  unfold swp
  rw [ge_set (by simp; omega)]
  split
  · rfl
  · rw [ge_set hj]

theorem sift_sorted : ∀ (j : Nat) (X : List Rs) (m : Nat), m ≤ X.length → j < m → (∀ a b, a < b → b < m → a ≠ j → b ≠ j → lt (ge X a) (ge X b)) → (∀ b, j < b → b < m → lt (ge X j) (ge X b)) →
    (∀ a, a < j → (ge X a).1 < (ge X j).1) → Srt (sift j X) m
  | 0, X, m, hm, hj, h1, h2, h3 => fun a b hab hb => by
    show lt (ge X a) (ge X b)
    by_cases ha : a = 0
    · subst ha; exact h2 b hab hb
    · exact h1 a b hab hb ha (by omega)
  | j + 1, X, m, hm, hj, h1, h2, h3 => by
    unfold sift
    have hl : j + 1 < X.length := by omega
    split
    · rename_i hc
      refine sift_sorted j (swp X j) m (by rw [swp_length]; exact hm) (by omega) (fun a b hab hb ha hbj => ?_) (fun b hjb hb => ?_) (fun a ha => ?_)
      · rw [ge_swp hl, ge_swp hl, if_neg ha, if_neg hbj]
        by_cases ha1 : a = j + 1
        · rw [if_pos ha1, if_neg (by omega)]
          exact h1 j b (by omega) hb (by omega) (by omega)
        · rw [if_neg ha1]
          by_cases hb1 : b = j + 1
          · rw [if_pos hb1]
            exact h1 a j (by omega) (by omega) (by omega) (by omega)
          · rw [if_neg hb1]
            exact h1 a b hab hb ha1 hb1
      · rw [ge_swp hl, ge_swp hl, if_pos rfl, if_neg (by omega)]
        by_cases hb1 : b = j + 1
        · rw [if_pos hb1]
          exact .inl hc
        · rw [if_neg hb1]
          exact h2 b (by omega) hb
      · rw [ge_swp hl, ge_swp hl, if_pos rfl, if_neg (by omega), if_neg (by omega)]
        exact h3 a (by omega)
    · rename_i hc
      intro a b hab hb
      by_cases hb1 : b = j + 1
      · subst hb1
        have hat := h3 a hab
        have hle : (ge X (j + 1)).2 ≤ (ge X a).2 := by
          by_cases haj : a = j
          · subst haj; omega
          · rcases h1 a j (by omega) (by omega) (by omega) (by omega) with h | h
            · omega
            · omega
        rcases Int.lt_or_eq_of_le hle with h | h
        · exact .inl h
        · exact .inr ⟨h.symm, hat⟩
      · by_cases ha1 : a = j + 1
        · subst ha1; exact h2 b hab hb
        · exact h1 a b hab hb ha1 hb1

/-- What stands in the list. -/
structure Cont (l : List Int) (X : List Rs) : Prop where
  len : X.length = l.length
  fr : ∀ a, a < l.length → ∃ i : Nat, i < l.length ∧ ge X a = ((i : Int), gt l i)
  to : ∀ i : Nat, i < l.length → ∃ a, a < l.length ∧ ge X a = ((i : Int), gt l i)

theorem Cont.swp {l : List Int} {X : List Rs} (c : Cont l X) {j : Nat} (hj : j + 1 < l.length) : Cont l (swp X j) := by
  have hl : j + 1 < X.length := by rw [c.len]; exact hj
  refine ⟨by rw [swp_length, c.len], fun a ha => ?_, fun i hi => ?_⟩
  · rw [ge_swp hl]
    split
    · exact c.fr (j + 1) hj
    · split
      · exact c.fr j (by omega)
      · exact c.fr a ha
  · obtain ⟨a, ha, e⟩ := c.to i hi
    by_cases h1 : a = j
    · exact ⟨j + 1, hj, by rw [ge_swp hl, if_neg (by omega), if_pos rfl, ← h1, e]⟩
    · by_cases h2 : a = j + 1
      · exact ⟨j, by omega, by rw [ge_swp hl, if_pos rfl, ← h2, e]⟩
      · exact ⟨a, ha, by rw [ge_swp hl, if_neg h1, if_neg h2, e]⟩

theorem Cont.sift {l : List Int} : ∀ {j : Nat} {X : List Rs}, Cont l X → j < l.length → Cont l (sift j X)
  | 0, X, c, _ => c
  | j + 1, X, c, hj => by
    unfold Proofs.Yteajjckbjgmhaaa.sift
    split
    · exact Cont.sift (c.swp hj) (by omega)
    · exact c

theorem sift_above : ∀ {j : Nat} {X : List Rs} (b : Nat), j < X.length → j < b → ge (sift j X) b = ge X b
  | 0, X, b, _, _ => rfl
  | j + 1, X, b, hl, hb => by
    unfold sift
    split
    · rw [sift_above b (by rw [swp_length]; omega) (by omega), ge_swp hl, if_neg (by omega), if_neg (by omega)]
    · rfl

theorem sift_below {c : Int} : ∀ {j : Nat} {X : List Rs}, j < X.length → (∀ a, a ≤ j → (ge X a).1 ≤ c) → ∀ a, a ≤ j → (ge (sift j X) a).1 ≤ c
  | 0, X, _, h, a, ha => h a ha
  | j + 1, X, hl, h, a, ha => by
    unfold sift
    split
    · have hw : ∀ a, a ≤ j + 1 → (ge (swp X j) a).1 ≤ c := fun a ha => by
        rw [ge_swp hl]
        split
        · exact h _ (Nat.le_refl _)
        · split
          · exact h _ (by omega)
          · exact h a ha
      rcases Nat.lt_or_ge j a with h1 | h1
      · rw [sift_above a (by rw [swp_length]; omega) h1]
        exact hw a ha
      · exact sift_below (by rw [swp_length]; omega) (fun a ha => hw a (by omega)) a h1
    · exact h a ha

/-- The list as it is at first. -/
def enumR (l : List Int) : List Rs := (List.range l.length).map fun (i : Nat) => ((i : Int), gt l i)

theorem enumR_length (l : List Int) : (enumR l).length = l.length := by simp [enumR]
theorem ge_enumR {l : List Int} {i : Nat} (hi : i < l.length) : ge (enumR l) i = ((i : Int), gt l i) := by
  simp [ge, enumR, List.getD_eq_getElem?_getD, hi]

theorem enumR_cont (l : List Int) : Cont l (enumR l) := ⟨enumR_length l, fun a ha => ⟨a, ha, ge_enumR ha⟩, fun i hi => ⟨i, hi, ge_enumR hi⟩⟩

theorem srt_ok (l : List Int) : ∀ k, k < l.length → Cont l (srt (enumR l) k) ∧ Srt (srt (enumR l) k) (k + 1) ∧ (∀ a, a ≤ k → (ge (srt (enumR l) k) a).1 ≤ k) ∧ ∀ b, k < b → ge (srt (enumR l) k) b = ge (enumR l) b
  | 0, hk => ⟨enumR_cont l, fun a b h1 h2 => by omega, fun a ha => by
      have e : a = 0 := by omega
      subst e
      show (ge (enumR l) 0).1 ≤ _
      rw [ge_enumR hk]
      exact Int.le_refl _, fun b _ => rfl⟩
  | k + 1, hk => by
    obtain ⟨c, s, below, above⟩ := srt_ok l k (by omega)
    have hl : k + 1 < (srt (enumR l) k).length := by rw [c.len]; exact hk
    have he := above (k + 1) (by omega)
    rw [ge_enumR hk] at he
    have hb : ∀ a, a ≤ k + 1 → (ge (srt (enumR l) k) a).1 ≤ ((k + 1 : Nat) : Int) := fun a ha => by
      rcases Nat.lt_or_ge k a with h1 | h1
      · rw [show a = k + 1 by omega, he]; exact Int.le_refl _
      · have := below a h1; omega
    refine ⟨c.sift hk, ?_, sift_below hl hb, fun b hb1 => ?_⟩
    · refine sift_sorted (k + 1) _ (k + 2) (by omega) (by omega) (fun a b hab hb1 h1 h2 => s a b hab (by omega)) (fun b h1 h2 => by omega) (fun a ha => ?_)
      rw [he]
      have := below a (by omega)
      show _ < ((k + 1 : Nat) : Int)
      omega
    · show ge (sift (k + 1) (srt (enumR l) k)) b = _
      rw [sift_above b hl hb1, above b (by omega)]

/-- The sorted list. -/
def sorted (l : List Int) : List Rs := srt (enumR l) (l.length - 1)

structure Sd (l : List Int) (S : List Rs) : Prop where
  c : Cont l S
  s : Srt S l.length

theorem sorted_ok (l : List Int) : Sd l (sorted l) := by
  unfold sorted
  rcases Nat.eq_zero_or_pos l.length with h | h
  · rw [h]
    exact ⟨enumR_cont l, fun a b _ hb => by omega⟩
  · obtain ⟨c, s, _⟩ := srt_ok l (l.length - 1) (by omega)
    rw [show l.length - 1 + 1 = l.length by omega] at s
    exact ⟨c, s⟩

theorem lt_irrefl {e : Rs} : ¬ lt e e := fun h => by
  rcases h with h | h <;> omega

theorem Sd.inj {l : List Int} {S : List Rs} (sd : Sd l S) {a b : Nat} (ha : a < l.length) (hb : b < l.length) (e : (ge S a).1 = (ge S b).1) : a = b := by
  obtain ⟨i, hi, e1⟩ := sd.c.fr a ha
  obtain ⟨k, hk, e2⟩ := sd.c.fr b hb
  rw [e1, e2] at e
  have hik : i = k := by
    have e' : (i : Int) = k := e
    omega
  subst hik
  have he : ge S a = ge S b := by rw [e1, e2]
  rcases Nat.lt_trichotomy a b with h | h | h
  · have := sd.s a b h hb; rw [he] at this; exact absurd this lt_irrefl
  · exact h
  · have := sd.s b a h ha; rw [he] at this; exact absurd this lt_irrefl

/-- The first ones have one more. -/
def addTo (q : List Int) (S : List Rs) : Nat → List Int
  | 0 => q
  | t + 1 => (addTo q S t).set (ge S t).1.toNat (gt (addTo q S t) (ge S t).1.toNat + 1)

theorem addTo_length (q : List Int) (S : List Rs) : ∀ t, (addTo q S t).length = q.length
  | 0 => rfl
  | t + 1 => by simp [addTo, addTo_length q S t]

theorem addTo_sum {q l : List Int} {S : List Rs} (sd : Sd l S) (hq : q.length = l.length) : ∀ t, t ≤ l.length → (addTo q S t).sum = q.sum + t
  | 0, _ => by simp [addTo]
  | t + 1, ht => by
    obtain ⟨i, hi, e⟩ := sd.c.fr t (by omega)
    simp only [addTo, e, Int.toNat_natCast]
    rw [sum_set (by rw [addTo_length]; omega), addTo_sum sd hq t (by omega)]
    simp only [gt]
    omega

/-- Is a place among the first ones? -/
theorem addTo_get {q l : List Int} {S : List Rs} (sd : Sd l S) (hq : q.length = l.length) {i p : Nat} (hp : p < l.length) (he : ge S p = ((i : Int), gt l i)) : ∀ t, t ≤ l.length → gt (addTo q S t) i = gt q i + if p < t then 1 else 0
  | 0, _ => by simp [addTo]
  | t + 1, ht => by
    obtain ⟨k, hk, e⟩ := sd.c.fr t (by omega)
    have ih := addTo_get sd hq hp he t (by omega)
    simp only [addTo, e, Int.toNat_natCast]
    rw [gt_set (by rw [addTo_length]; omega)]
    by_cases hik : i = k
    · subst hik
      have hpt : p = t := sd.inj hp (by omega) (by rw [he, e])
      subst hpt
      rw [if_pos rfl, ih, if_neg (by omega), if_pos (by omega)]
      omega
    · rw [if_neg hik, ih]
      have hpt : p ≠ t := fun h => by
        subst h
        rw [he] at e
        apply hik
        have e' : (i : Int) = k := congrArg Prod.fst e
        omega
      by_cases h1 : p < t
      · rw [if_pos h1, if_pos (by omega)]
      · rw [if_neg h1, if_neg (by omega)]

end Go.Proofs.Yteajjckbjgmhaaa
