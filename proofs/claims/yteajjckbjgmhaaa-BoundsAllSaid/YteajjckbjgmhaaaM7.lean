/-
  Parts by shares: the greatest rest that has none yet, one by one: plain laws.
-/
import Derived.Test.YteajjckbjgmhaaaM6
namespace Go.Proofs.Yteajjckbjgmhaaa

/-- What is lost still, when so many have been taken. -/
def lostT (l : List Int) (S : List Rs) : Nat → List Int
  | 0 => l
  | t + 1 => (lostT l S t).set (ge S t).1.toNat (-1)

theorem lostT_length (l : List Int) (S : List Rs) : ∀ t, (lostT l S t).length = l.length
  | 0 => rfl
  | t + 1 => by simp [lostT, lostT_length l S t]

theorem lostT_get {l : List Int} {S : List Rs} (sd : Sd l S) {i p : Nat} (hp : p < l.length) (he : ge S p = ((i : Int), gt l i)) : ∀ t, t ≤ l.length → gt (lostT l S t) i = if p < t then -1 else gt l i
  | 0, _ => by simp [lostT]
  | t + 1, ht => by
    obtain ⟨k, hk, e⟩ := sd.c.fr t (by omega)
    have ih := lostT_get sd hp he t (by omega)
    simp only [lostT, e, Int.toNat_natCast]
    rw [gt_set (by rw [lostT_length]; omega)]
    by_cases hik : i = k
    · subst hik
      have hpt : p = t := sd.inj hp (by omega) (by rw [he, e])
      subst hpt
      rw [if_pos rfl, if_pos (by omega)]
    · rw [if_neg hik, ih]
      have hpt : p ≠ t := fun h => by
        subst h
        rw [he] at e
        apply hik
        have e' : (i : Int) = k := congrArg Prod.fst e
        omega
      by_cases h1 : p < t
      · rw [if_pos h1, if_pos (by omega)]
      · rw [if_neg h1, if_neg (by omega)]

/-- The first one of the greatest, so far. -/
def Am (L : List Int) (n b : Nat) : Prop := b < n ∧ ∀ j, j < n → gt L j ≤ gt L b ∧ (j < b → gt L j < gt L b)

theorem Am.unique {L : List Int} {n a b : Nat} (h1 : Am L n a) (h2 : Am L n b) : a = b := by
  have x1 := h1.2 b h2.1
  have x2 := h2.2 a h1.1
  rcases Nat.lt_trichotomy a b with h | h | h
  · have := x2.2 h; omega
  · exact h
  · have := x1.2 h; omega

theorem lostT_best {l : List Int} {S : List Rs} (sd : Sd l S) (hl : ∀ i, i < l.length → 0 ≤ gt l i) {t i : Nat} (ht : t < l.length) (hi : i < l.length) (he : ge S t = ((i : Int), gt l i)) : Am (lostT l S t) l.length i := by
  refine ⟨hi, fun j hj => ?_⟩
  obtain ⟨p, hp, e⟩ := sd.c.to j hj
  rw [lostT_get sd hp e t (by omega), lostT_get sd ht he t (by omega), if_neg (Nat.lt_irrefl t)]
  have := hl i hi
  by_cases h1 : p < t
  · rw [if_pos h1]; omega
  · rw [if_neg h1]
    rcases Nat.eq_or_lt_of_le (Nat.le_of_not_lt h1) with h2 | h2
    · subst h2
      rw [he] at e
      have e' : (i : Int) = j := congrArg Prod.fst e
      have : i = j := by omega
      subst this
      omega
    · have h3 := sd.s t p h2 hp
      rw [he, e] at h3
      rcases h3 with h3 | h3
      · have h3' : gt l j < gt l i := h3
        omega
      · have h4 : gt l i = gt l j := h3.1
        have h5 : (i : Int) < j := h3.2
        omega

theorem Am.next {L : List Int} {n b : Nat} (h : Am L n b) : (gt L b < gt L n → Am L (n + 1) n) ∧ (gt L n ≤ gt L b → Am L (n + 1) b) := by
  refine ⟨fun hc => ⟨by omega, fun j hj => ?_⟩, fun hc => ⟨by have := h.1; omega, fun j hj => ?_⟩⟩
  · rcases Nat.lt_or_ge j n with h1 | h1
    · have := (h.2 j h1).1; omega
    · rw [show j = n by omega]; omega
  · rcases Nat.lt_or_ge j n with h1 | h1
    · exact h.2 j h1
    · rw [show j = n by omega]
      have := h.1
      omega

end Go.Proofs.Yteajjckbjgmhaaa
