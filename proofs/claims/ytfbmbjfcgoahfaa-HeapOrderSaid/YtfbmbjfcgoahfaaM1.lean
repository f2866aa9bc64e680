/-
  Maps of numbers, as the heap uses them: plain laws.
-/
import Derived.Test.YtfbmbjfcgoahfaaAME
namespace Go.Proofs.Ytfbmbjfcgoahfaa
open Go Go.AM
set_option linter.unusedVariables false

/-- When the entries were born: no two at one time. -/
def births (m : IM) : List Nat := m.map fun e => e.2.2

theorem mput_same {k v : Int} {n : Nat} : ∀ {m : IM}, mget k m = some v → mput k v n m = m
  | [], h => by cases h
  | e :: m, h => by
    obtain ⟨a, b, c⟩ := e
    simp only [mget] at h
    simp only [mput]
    split at h
    · rename_i hk
      injection h with h
      subst hk
      subst h
      rw [if_pos rfl]
    · rename_i hk
      rw [if_neg hk, mput_same h]

theorem mborn_mem {k v : Int} : ∀ {m : IM}, mget k m = some v → mborn k m ∈ births m
  | [], h => by cases h
  | e :: m, h => by
    simp only [mget] at h
    simp only [mborn, births, List.map_cons, List.mem_cons]
    split at h
    · rename_i hk
      rw [if_pos hk]
      exact .inl rfl
    · rename_i hk
      rw [if_neg hk]
      exact .inr (mborn_mem h)

/-- A store by the birth of a key is a store of that key. -/
theorem mstamp_put {k v x : Int} {n : Nat} : ∀ {m : IM}, (births m).Nodup → mget k m = some v → mstamp (mborn k m) x m = some (mput k x n m)
  | [], _, h => by cases h
  | e :: m, hn, h => by
    simp only [births, List.map_cons, List.nodup_cons] at hn
    simp only [mget] at h
    simp only [mborn, mstamp, mput]
    split at h
    · rename_i hk
      subst hk
      simp
    · rename_i hk
      have h1 := mborn_mem h
      have h2 : ((e.2.2 : Int) == (mborn k m : Int)) = false := by
        simp only [beq_eq_false_iff_ne, ne_eq]
        intro he
        exact hn.1 (by have : e.2.2 = mborn k m := by omega
                       rw [this]
                       exact h1)
      simp only [if_neg hk, h2]
      rw [mstamp_put (n := n) hn.2 h]
      rfl

theorem births_put {k v x : Int} {n : Nat} : ∀ {m : IM}, mget k m = some v → births (mput k x n m) = births m
  | [], h => by cases h
  | e :: m, h => by
    simp only [mget] at h
    simp only [mput, births, List.map_cons]
    split at h
    · rename_i hk
      rw [if_pos hk]
      rfl
    · rename_i hk
      rw [if_neg hk]
      simp only [List.map_cons]
      congr 1
      exact births_put h

theorem mget_put (k j x : Int) (n : Nat) : ∀ m : IM, mget j (mput k x n m) = if j = k then some x else mget j m
  | [] => by
    simp only [mput, mget]
  | e :: m => by
    have ih := mget_put k j x n m
    simp only [mput]
    by_cases hk : k = e.1
    · rw [if_pos hk]
      simp only [mget]
      by_cases hj : j = k
      · rw [if_pos hj, if_pos hj]
      · rw [if_neg hj, if_neg hj, if_neg (by rw [← hk]; exact hj)]
    · rw [if_neg hk]
      simp only [mget]
      by_cases hj : j = e.1
      · rw [if_pos hj, if_pos hj, if_neg (by rw [hj]; exact fun h => hk h.symm)]
      · rw [if_neg hj, if_neg hj, ih]

theorem births_new {k x : Int} {n : Nat} : ∀ {m : IM}, mget k m = none → births (mput k x n m) = births m ++ [n]
  | [], _ => rfl
  | e :: m, h => by
    simp only [mget] at h
    simp only [mput, births, List.map_cons, List.cons_append]
    split at h
    · cases h
    · rename_i hk
      rw [if_neg hk]
      simp only [List.map_cons]
      congr 1
      exact births_new h

end Go.Proofs.Ytfbmbjfcgoahfaa
