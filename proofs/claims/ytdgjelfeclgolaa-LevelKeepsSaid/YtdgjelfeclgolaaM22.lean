/-
  Lanes that take turns: what is chosen, joined, taken, dropped; plain definitions and laws.
-/
import Derived.Test.YtdgjelfeclgolaaTab2
import Derived.Test.YtdgjelfeclgolaaF5
namespace Go.Proofs.Ytdgjelfeclgolaa
open Go Go.AM
set_option linter.unusedVariables false
set_option linter.unusedSimpArgs false

/-- The first of the least. -/
def pick (ok : Int → Bool) (s : Int → Int) : List Int → Int
  | [] => -1
  | k :: l => if ok k = true ∧ (pick ok s l < 0 ∨ s k ≤ s (pick ok s l)) then k else pick ok s l

section
variable {ok : Int → Bool} {s : Int → Int}

theorem pick_snoc (h : ∀ k, ok k = true → 0 ≤ k) (l : List Int) (k : Int) : pick ok s (l ++ [k]) = if ok k = true ∧ (pick ok s l < 0 ∨ s k < s (pick ok s l)) then k else pick ok s l := by
  induction l with
  | nil => simp [pick]
  | cons a l ih =>
    simp only [List.cons_append, pick, ih]
    have h1 := h a
    have h2 := h k
    obtain ⟨p, hp⟩ : ∃ p, pick ok s l = p := ⟨_, rfl⟩
    simp only [hp]
    clear ih hp
    by_cases hk : ok k = true <;> by_cases ha : ok a = true
    · have k0 := h2 hk
      have a0 := h1 ha
      simp only [hk, ha, true_and]
      have k1 : ¬ k < 0 := by omega
      have a1 : ¬ a < 0 := by omega
      by_cases hp : p < 0
      · by_cases c3 : s k < s a
        · have c4 : ¬ s a ≤ s k := by omega
          simp only [hp, c3, c4, k1, a1, true_or, false_or, if_true, if_false]
        · have c4 : s a ≤ s k := by omega
          simp only [hp, c3, c4, k1, a1, true_or, false_or, if_true, if_false]
      · by_cases c1 : s k < s p
        · by_cases c2 : s a ≤ s p
          · by_cases c3 : s k < s a
            · have c4 : ¬ s a ≤ s k := by omega
              simp only [hp, c1, c2, c3, c4, k1, a1, true_or, false_or, if_true, if_false]
            · have c4 : s a ≤ s k := by omega
              simp only [hp, c1, c2, c3, c4, k1, a1, true_or, false_or, if_true, if_false]
          · have c4 : ¬ s a ≤ s k := by omega
            simp only [hp, c1, c2, c4, k1, a1, true_or, false_or, if_true, if_false]
        · by_cases c2 : s a ≤ s p
          · have c3 : ¬ s k < s a := by omega
            simp only [hp, c1, c2, c3, k1, a1, true_or, false_or, if_true, if_false]
          · simp only [hp, c1, c2, k1, a1, true_or, false_or, if_true, if_false]
    · simp only [hk, ha, true_and, false_and, if_false, Bool.false_eq_true]
    · simp only [hk, ha, true_and, false_and, if_false, Bool.false_eq_true]
    · simp only [hk, ha, true_and, false_and, if_false, Bool.false_eq_true]

theorem pick_cases (h : ∀ k, ok k = true → 0 ≤ k) (l : List Int) : (pick ok s l = -1 ∧ ∀ k, k ∈ l → ok k = false) ∨
    (0 ≤ pick ok s l ∧ ok (pick ok s l) = true ∧ ∃ i : Nat, l[i]? = some (pick ok s l) ∧ (∀ (j : Nat) k, l[j]? = some k → ok k = true → s (pick ok s l) ≤ s k) ∧ ∀ (j : Nat) k, j < i → l[j]? = some k → ok k = true → s (pick ok s l) < s k) := by
  induction l with
  | nil => exact .inl ⟨rfl, by simp⟩
  | cons a l ih =>
    simp only [pick]
    by_cases ha : ok a = true
    · have a0 := h a ha
      rcases ih with ⟨h1, h2⟩ | ⟨h1, h2, i, h3, h4, h5⟩
      · rw [if_pos ⟨ha, .inl (by omega)⟩]
        refine .inr ⟨a0, ha, 0, rfl, ?_, fun j k hj => by omega⟩
        intro j k hk ho
        cases j with
        | zero => simp at hk; subst hk; exact Int.le_refl _
        | succ j => rw [h2 k (List.mem_of_getElem? (by simpa using hk))] at ho; cases ho
      · by_cases c : s a ≤ s (pick ok s l)
        · rw [if_pos ⟨ha, .inr c⟩]
          refine .inr ⟨a0, ha, 0, rfl, ?_, fun j k hj => by omega⟩
          intro j k hk ho
          cases j with
          | zero => simp at hk; subst hk; exact Int.le_refl _
          | succ j => exact Int.le_trans c (h4 j k (by simpa using hk) ho)
        · rw [if_neg (by omega)]
          refine .inr ⟨h1, h2, i + 1, by simpa using h3, ?_, ?_⟩
          · intro j k hk ho
            cases j with
            | zero => simp at hk; subst hk; omega
            | succ j => exact h4 j k (by simpa using hk) ho
          · intro j k hj hk ho
            cases j with
            | zero => simp at hk; subst hk; omega
            | succ j => exact h5 j k (by omega) (by simpa using hk) ho
    · rw [if_neg (by simp [ha])]
      rcases ih with ⟨h1, h2⟩ | ⟨h1, h2, i, h3, h4, h5⟩
      · refine .inl ⟨h1, fun k hk => ?_⟩
        rcases List.mem_cons.1 hk with rfl | hk
        · simpa using ha
        · exact h2 k hk
      · refine .inr ⟨h1, h2, i + 1, by simpa using h3, ?_, ?_⟩
        · intro j k hk ho
          cases j with
          | zero => simp at hk; subst hk; exact absurd ho ha
          | succ j => exact h4 j k (by simpa using hk) ho
        · intro j k hj hk ho
          cases j with
          | zero => simp at hk; subst hk; exact absurd ho ha
          | succ j => exact h5 j k (by omega) (by simpa using hk) ho

theorem pick_ge (h : ∀ k, ok k = true → 0 ≤ k) (l : List Int) : -1 ≤ pick ok s l := by
  rcases pick_cases (s := s) h l with ⟨h1, _⟩ | ⟨h1, _⟩ <;> omega

theorem drop_at {α : Type} {l : List α} {i : Nat} {x : α} (h : l[i]? = some x) : l.drop i = x :: l.drop (i + 1) := by
  obtain ⟨hi, rfl⟩ := List.getElem?_eq_some_iff.1 h
  exact List.drop_eq_getElem_cons hi
end

def idxs (n : Nat) : List Int := (List.range n).map fun (i : Nat) => (i : Int)
theorem idxs_get {n i : Nat} (h : i < n) : (idxs n)[i]? = some (i : Int) := by simp [idxs, h]
theorem idxs_length (n : Nat) : (idxs n).length = n := by simp [idxs]
theorem idxs_of {n i : Nat} {k : Int} (h : (idxs n)[i]? = some k) : k = i ∧ i < n := by
  have hi : i < n := by
    have := (List.getElem?_eq_some_iff.1 h).1
    rwa [idxs_length] at this
  rw [idxs_get hi] at h
  injection h with h
  exact ⟨h.symm, hi⟩

def zeroL : TLane := ⟨0, []⟩
def zeroF : TFair := ⟨0, 0, 0, 0, []⟩
def laneAt (f : TFair) (k : Int) : TLane := f.lanes.getD k.toNat zeroL
theorem laneAt_of {f : TFair} {k : Int} {l : TLane} (h : f.lanes[k.toNat]? = some l) : laneAt f k = l := by rw [laneAt, List.getD_eq_getElem?_getD, h]; rfl
theorem laneAt_nat {f : TFair} {k : Nat} {l : TLane} (h : f.lanes[k]? = some l) : laneAt f k = l := laneAt_of (by simpa using h)
theorem laneAt_get {f : TFair} {k : Int} (h0 : 0 ≤ k) (h : k < f.lanes.length) : f.lanes[k.toNat]? = some (laneAt f k) := by
  obtain ⟨l, hl⟩ := some_of_lt (l := f.lanes) (i := k.toNat) (by omega)
  rw [laneAt_of hl, hl]

def okHand (f : TFair) (k : Int) : Bool := decide (0 ≤ k ∧ k < f.open_ ∧ k < f.lanes.length)
theorem okHand_ge (f : TFair) (k : Int) (h : okHand f k = true) : 0 ≤ k := (of_decide_eq_true h).1
def choose (f : TFair) (hand : List Int) : Int := pick (okHand f) (fun k => seats (laneAt f k)) hand

/-- What may be asked of lanes: not too many. -/
def okF (n m : Nat) (f : TFair) : Prop := f.lanes.length ≤ n ∧ ∀ l, l ∈ f.lanes → 0 ≤ l.start ∧ l.wait.length ≤ m

theorem okF.at {n m : Nat} {f : TFair} (h : okF n m f) (k : Int) : 0 ≤ (laneAt f k).start ∧ (laneAt f k).wait.length ≤ m := by
  rcases Nat.lt_or_ge k.toNat f.lanes.length with h1 | h1
  · obtain ⟨l, hl⟩ := some_of_lt h1
    rw [laneAt_of hl]
    exact h.2 l (List.mem_of_getElem? hl)
  · rw [laneAt, List.getD_eq_getElem?_getD, List.getElem?_eq_none h1]
    exact ⟨Int.le_refl _, Nat.zero_le _⟩

theorem okF.mono {n m n' m' : Nat} {f : TFair} (h : okF n m f) (h1 : n ≤ n') (h2 : m ≤ m') : okF n' m' f := ⟨Nat.le_trans h.1 h1, fun l hl => ⟨(h.2 l hl).1, Nat.le_trans (h.2 l hl).2 h2⟩⟩

theorem okF.set {n m : Nat} {f : TFair} (h : okF n m f) (k : Nat) (l : TLane) (h1 : 0 ≤ l.start) (h2 : l.wait.length ≤ m) (r g n2 o : Int) : okF n m ⟨r, g, n2, o, f.lanes.set k l⟩ := by
  refine ⟨by simpa using h.1, fun x hx => ?_⟩
  rcases List.mem_or_eq_of_mem_set hx with hx | rfl
  · exact h.2 x hx
  · exact ⟨h1, h2⟩

theorem choose_cases (f : TFair) (hand : List Int) : choose f hand = -1 ∨ (0 ≤ choose f hand ∧ choose f hand < f.open_ ∧ choose f hand < f.lanes.length) := by
  rcases pick_cases (s := fun k => seats (laneAt f k)) (okHand_ge f) hand with ⟨h1, _⟩ | ⟨_, h2, _⟩
  · exact .inl h1
  · exact .inr (of_decide_eq_true h2)

/-- Who joins a lane of a hand. -/
def fjoin (f : TFair) (hand : List Int) (t : TTicket) : TFair × Int × Int :=
  if choose f hand < 0 then (zeroF, 0, 6) else if f.length ≤ (laneAt f (choose f hand)).wait.length then (zeroF, 0, 7) else
    (⟨f.r, f.guess, f.length, f.open_, f.lanes.set (choose f hand).toNat (join (laneAt f (choose f hand)) f.r t)⟩, choose f hand, 0)

def okNext (f : TFair) (k : Int) : Bool := decide (0 ≤ k) && (fin (laneAt f k) f.guess).2
theorem okNext_ge (f : TFair) (k : Int) (h : okNext f k = true) : 0 ≤ k := by
  simp only [okNext, Bool.and_eq_true, decide_eq_true_eq] at h
  exact h.1
def next (f : TFair) : Int := pick (okNext f) (fun k => (fin (laneAt f k) f.guess).1) (idxs f.lanes.length)

theorem next_cases (f : TFair) : (next f = -1 ∧ ∀ (k : Nat) (l : TLane), f.lanes[k]? = some l → l.wait = []) ∨
    (∃ (k : Nat) (l : TLane) (t : TTicket) (w : List TTicket), next f = k ∧ f.lanes[k]? = some l ∧ l.wait = t :: w ∧ laneAt f k = l ∧ ∀ (j : Nat) l', f.lanes[j]? = some l' → l'.wait ≠ [] → (fin l f.guess).1 ≤ (fin l' f.guess).1) := by
  have hfin : ∀ (l : TLane), (fin l f.guess).2 = decide (l.wait ≠ []) := by
    intro l
    rw [fin]
    split <;> rename_i h <;> simp [h]
  rcases pick_cases (s := fun k => (fin (laneAt f k) f.guess).1) (okNext_ge f) (idxs f.lanes.length) with ⟨h1, h2⟩ | ⟨h1, h2, i, h3, h4, h5⟩
  · refine .inl ⟨h1, fun k l hk => ?_⟩
    have hk2 : k < f.lanes.length := (List.getElem?_eq_some_iff.1 hk).1
    have := h2 k (List.mem_of_getElem? (idxs_get hk2))
    simp only [okNext, hfin, laneAt_nat hk] at this
    simpa using this
  · obtain ⟨e1, e2⟩ := idxs_of h3
    obtain ⟨l, hl⟩ := some_of_lt e2
    have e3 := laneAt_nat hl
    refine .inr ?_
    rw [e1] at h2 h4
    simp only [okNext, hfin, e3] at h2
    simp only [e3] at h4
    have e4 : l.wait ≠ [] := by simpa using h2
    obtain ⟨t, w, e5⟩ := List.exists_cons_of_ne_nil e4
    refine ⟨i, l, t, w, e1, hl, e5, e3, fun j l' hj hw => ?_⟩
    have hj2 : j < f.lanes.length := (List.getElem?_eq_some_iff.1 hj).1
    have := h4 j j (idxs_get hj2) (by simp only [okNext, hfin, laneAt_nat hj]; simpa using hw)
    simpa only [laneAt_nat hj] using this

/-- How many lanes are left. -/
def trimN (o : Int) (l : List TLane) : Nat → Nat
  | 0 => 0
  | n + 1 => if max o 0 < (n : Int) + 1 ∧ (l.getD n zeroL).wait.length = 0 then trimN o l n else n + 1
theorem trimN_le (o : Int) (l : List TLane) : ∀ n, trimN o l n ≤ n
  | 0 => Nat.le_refl _
  | n + 1 => by
    rw [trimN]
    split
    · exact Nat.le_succ_of_le (trimN_le o l n)
    · exact Nat.le_refl _
def ftrim (f : TFair) : TFair := ⟨f.r, f.guess, f.length, f.open_, f.lanes.take (trimN f.open_ f.lanes f.lanes.length)⟩

theorem okF.trim {n m : Nat} {f : TFair} (h : okF n m f) : okF n m (ftrim f) := by
  refine ⟨?_, fun l hl => h.2 l (List.mem_of_mem_take hl)⟩
  have := h.1
  simp only [ftrim, List.length_take]
  omega

def ftake (f : TFair) : TFair × TTicket × Bool :=
  if next f < 0 then (f, zeroT, false) else
    (ftrim ⟨max f.r (take (laneAt f (next f)) f.guess).1.start, f.guess, f.length, f.open_, f.lanes.set (next f).toNat (take (laneAt f (next f)) f.guess).1⟩, (take (laneAt f (next f)) f.guess).2.1, true)

def dropAt (f : TFair) (id : Int) : Int := idx (fun l => (drop l id).2.2) f.lanes
def fdrop (f : TFair) (id : Int) : TFair × TTicket × Bool :=
  if 0 ≤ dropAt f id then (ftrim ⟨f.r, f.guess, f.length, f.open_, f.lanes.set (dropAt f id).toNat (drop (laneAt f (dropAt f id)) id).1⟩, (drop (laneAt f (dropAt f id)) id).2.1, true) else (f, zeroT, false)

def mayB (o g n : Int) : Bool := decide (1 ≤ o ∧ o ≤ 64 ∧ 1 ≤ g ∧ g ≤ 1000 ∧ 1 ≤ n ∧ n ≤ 64)
def grow (l : List TLane) (o : Int) : List TLane := l ++ List.replicate (o.toNat - l.length) zeroL
def shape (f : TFair) (o g n : Int) : TFair × Int := if mayB o g n = true then (ftrim ⟨f.r, g, n, o, grow f.lanes o⟩, 0) else (zeroF, 1)
def shut (f : TFair) : TFair := ftrim ⟨f.r, f.guess, f.length, 0, f.lanes⟩
def fnew (o g n : Int) : TFair × Int := shape zeroF o g n
def waiting (f : TFair) : Int := (f.lanes.map fun l => (l.wait.length : Int)).sum
def fseats (f : TFair) : Int := (f.lanes.map seats).sum

end Go.Proofs.Ytdgjelfeclgolaa
