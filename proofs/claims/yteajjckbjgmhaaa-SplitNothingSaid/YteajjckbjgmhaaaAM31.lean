/-
  AM, part 31: drawn rows that write nothing.
-/
import Derived.Test.YteajjckbjgmhaaaAM30
namespace Go.AM
open Go

/-- Nothing is written, and only what was there is looked at. -/
def allOld (n0 : Nat) : List (Bool × List Nat) → Prop
  | [] => True
  | e :: r => e.1 = false ∧ (∀ j, j ∈ e.2 → j < n0) ∧ allOld n0 r

theorem allOld_mem {n0 : Nat} : ∀ {tc : List (Bool × List Nat)}, allOld n0 tc → ∀ e, e ∈ tc → e.1 = false ∧ ∀ j, j ∈ e.2 → j < n0
  | [], _, e, he => by cases he
  | a :: r, h, e, he => by
    rcases List.mem_cons.1 he with rfl | he
    · exact ⟨h.1, h.2.1⟩
    · exact allOld_mem h.2.2 e he

theorem indepB_reads {n n0 : Nat} {Pr : List (List Nat)} {tc : List (Bool × List Nat)} (h : allOld n0 tc) : indepB n n0 Pr tc = true := by
  unfold indepB
  rw [List.all_eq_true]
  intro i _
  rw [List.all_eq_true]
  intro k _
  have hg : ∀ i : Nat, (tc.getD i (false, [])).1 = false ∧ ∀ j, j ∈ (tc.getD i (false, [])).2 → j < n0 := fun i => by
    rw [List.getD_eq_getElem?_getD]
    cases hi : tc[i]? with
    | none => exact ⟨rfl, fun j hj => by cases hj⟩
    | some e => exact allOld_mem h e (List.mem_of_getElem? hi)
  simp only [Bool.or_eq_true, Bool.and_eq_true, Bool.not_eq_true', beq_iff_eq]
  refine .inr ⟨.inl (hg i).1, ?_⟩
  rw [Bool.eq_false_iff]
  intro hc
  rw [List.contains_iff_mem] at hc
  have := (hg k).2 _ hc
  omega

theorem allOld_nil {n0 : Nat} : allOld n0 [] := trivial
theorem allOld_cons {n0 : Nat} {b : Bool} {l : List Nat} {r : List (Bool × List Nat)} (hb : b = false) (hl : ∀ j, j ∈ l → j < n0) (h : allOld n0 r) : allOld n0 ((b, l) :: r) := ⟨hb, hl, h⟩

end Go.AM
