/-
  Clocks, as the list of what is due in its order: what was set, in parts, in any order; plain Lean.
-/
import Derived.Test.YtfbmbjfcgoahfaaF7
namespace Go.Proofs.Ytfbmbjfcgoahfaa
open Go Go.AM
set_option linter.unusedVariables false
set_option linter.unusedSimpArgs false

theorem sorted_ext : ∀ {l l' : List TItem}, Sorted l → Sorted l' → (∀ y, y ∈ l ↔ y ∈ l') → l = l'
  | [], [], _, _, _ => rfl
  | [], b :: l', _, _, h => by have := (h b).2 (List.mem_cons_self ..); cases this
  | a :: l, [], _, _, h => by have := (h a).1 (List.mem_cons_self ..); cases this
  | a :: l, b :: l', h1, h2, h => by
    unfold Sorted at h1 h2
    rw [List.pairwise_cons] at h1 h2
    have e : a = b := by
      rcases List.mem_cons.1 ((h a).1 (List.mem_cons_self ..)) with e | ha
      · exact e
      · rcases List.mem_cons.1 ((h b).2 (List.mem_cons_self ..)) with e | hb
        · exact e.symm
        · have q1 := h1.1 b hb
          have q2 := h2.1 a ha
          rw [goes_t] at q1 q2
          omega
    subst e
    have hno : ∀ {m : List TItem}, (∀ y, y ∈ m → goesB a y = true) → a ∉ m := fun hm ha => by
      have := hm a ha
      rw [goes_t] at this
      omega
    rw [sorted_ext h1.2 h2.2 fun y => by
      constructor
      · intro hy
        rcases List.mem_cons.1 ((h y).1 (List.mem_cons_of_mem _ hy)) with rfl | hy'
        · exact absurd hy (hno h1.1)
        · exact hy'
      · intro hy
        rcases List.mem_cons.1 ((h y).2 (List.mem_cons_of_mem _ hy)) with rfl | hy'
        · exact absurd hy (hno h2.1)
        · exact hy']

/-- One who is set. -/
def itemOf (d : TDue) : TItem := ⟨d.at_, d.iD⟩
def okDue (d : TDue) : Prop := 0 < d.at_ ∧ d.at_ ≤ 1099511627776
theorem dueOf_itemOf (d : TDue) : dueOf (itemOf d) = d := rfl

def laidStep (a : HS × List TItem × Nat) (d : TDue) : HS × List TItem × Nat :=
  (setS 0 a.1 d.iD d.at_, (setL 0 a.2.1 d.iD d.at_).1, if (setL 0 a.2.1 d.iD d.at_).2 = 0 then a.2.2 + 1 else a.2.2)
def laidF (xs : List TDue) : HS × List TItem × Nat := xs.foldl laidStep (newS, [], 0)
theorem laidF_snoc (xs : List TDue) (d : TDue) : laidF (xs ++ [d]) = laidStep (laidF xs) d := by simp [laidF]

structure LaidOk (xs : List TDue) (a : HS × List TItem × Nat) : Prop where
  c : CView 0 a.1 a.2.1
  n : a.2.2 = a.2.1.length
  mem : ∀ y, y ∈ a.2.1 → ∃ d, d ∈ xs ∧ y = itemOf d

theorem setL_cases (n : Int) (l : List TItem) (id at_ : Int) : ((setL n l id at_).2 ≠ 0 ∧ (setL n l id at_).1 = l) ∨ ((setL n l id at_).2 = 0 ∧ (setL n l id at_).1 = insL l ⟨at_, id⟩ ∧ ¬ (at_ ≤ n ∨ at_ > 1099511627776) ∧ hasL l id = false) := by
  unfold setL
  split
  · exact .inl ⟨by simp, rfl⟩
  · rename_i h
    unfold pushL
    split
    · exact .inl ⟨by simp, rfl⟩
    · rename_i h2
      split
      · exact .inl ⟨by simp, rfl⟩
      · exact .inr ⟨rfl, rfl, h, by simpa using h2⟩

theorem LaidOk.step {xs : List TDue} {a : HS × List TItem × Nat} (h : LaidOk xs a) {d : TDue} (hd : d ∈ xs) (hw : d.wf) : LaidOk xs (laidStep a d) := by
  obtain ⟨c', _⟩ := set_F h.c d.iD d.at_ hw.1
  refine ⟨c', ?_, ?_⟩
  · unfold laidStep
    rcases setL_cases 0 a.2.1 d.iD d.at_ with ⟨e1, e2⟩ | ⟨e1, e2, _⟩
    · simp only [if_neg e1, e2]; exact h.n
    · simp only [if_pos e1, e2, len_insL]; rw [h.n]
  · intro y hy
    unfold laidStep at hy
    rcases setL_cases 0 a.2.1 d.iD d.at_ with ⟨e1, e2⟩ | ⟨e1, e2, _⟩
    · simp only [e2] at hy; exact h.mem y hy
    · simp only [e2] at hy
      rcases mem_insL.1 hy with rfl | hy
      · exact ⟨d, hd, rfl⟩
      · exact h.mem y hy

theorem laid_law (xs : List TDue) (hw : ∀ d, d ∈ xs → d.wf) : LaidOk xs (laidF xs) := by
  have key : ∀ (ys : List TDue) (a : HS × List TItem × Nat), (∀ d, d ∈ ys → d ∈ xs) → LaidOk xs a → LaidOk xs (ys.foldl laidStep a) := by
    intro ys
    induction ys with
    | nil => intro a _ h; exact h
    | cons d ys ih =>
      intro a hs h
      exact ih _ (fun e he => hs e (List.mem_cons_of_mem _ he)) (h.step (hs d (List.mem_cons_self ..)) (hw d (hs d (List.mem_cons_self ..))))
  exact key xs _ (fun _ h => h) ⟨CView.new, rfl, fun y hy => (nomatch hy)⟩

/-- Time that goes in parts. -/
theorem take_parts {α : Type} {p q : α → Bool} (h : ∀ x, p x = true → q x = true) : ∀ l : List α, l.takeWhile q = l.takeWhile p ++ (l.dropWhile p).takeWhile q ∧ l.dropWhile q = (l.dropWhile p).dropWhile q
  | [] => ⟨rfl, rfl⟩
  | x :: l => by
    obtain ⟨h1, h2⟩ := take_parts h l
    rw [List.takeWhile_cons (p := p), List.dropWhile_cons (p := p)]
    cases hp : p x with
    | true =>
      rw [List.takeWhile_cons, List.dropWhile_cons, h x hp]
      simp only [if_true, List.cons_append]
      exact ⟨by rw [h1], h2⟩
    | false =>
      simp only [Bool.false_eq_true, if_false, List.nil_append]
      exact ⟨trivial, trivial⟩

theorem dueB_le {a b : Int} (h : a ≤ b) (x : TItem) (hx : dueB a x = true) : dueB b x = true := by
  simp [dueB] at *
  omega

theorem due_none {l : List TItem} {n : Int} (h : ∀ y, y ∈ l → n < y.key) : l.takeWhile (dueB n) = [] ∧ l.dropWhile (dueB n) = l := by
  cases l with
  | nil => exact ⟨rfl, rfl⟩
  | cons x l =>
    have : dueB n x = false := by
      have := h x (List.mem_cons_self ..)
      simp [dueB]
      omega
    rw [List.takeWhile_cons, List.dropWhile_cons, this]
    simp

/-- What is told is in order, and gone. -/
theorem due_order {l : List TItem} (h : Sorted l) {a b : Nat} {x y : TItem} (hab : a < b) (hx : l[a]? = some x) (hy : l[b]? = some y) : goesB x y = true := by
  unfold Sorted at h
  rw [List.pairwise_iff_getElem] at h
  have ha := (List.getElem?_eq_some_iff.1 hx)
  have hb := (List.getElem?_eq_some_iff.1 hy)
  obtain ⟨q1, rfl⟩ := ha
  obtain ⟨q2, rfl⟩ := hb
  exact h a b q1 q2 hab

theorem due_mem {l : List TItem} {to : Int} {x : TItem} (h : x ∈ l.takeWhile (dueB to)) : x ∈ l ∧ x.key ≤ to := by
  refine ⟨(List.takeWhile_prefix _).subset h, ?_⟩
  have : dueB to x = true := by
    induction l with
    | nil => cases h
    | cons y l ih =>
      rw [List.takeWhile_cons] at h
      split at h
      · rename_i hy
        rcases List.mem_cons.1 h with rfl | h
        · exact hy
        · exact ih h
      · cases h
  simpa [dueB] using this

theorem due_gone {l : List TItem} (hi : (l.map (·.iD)).Nodup) {to : Int} {x : TItem} (h : x ∈ l.takeWhile (dueB to)) : hasL (l.dropWhile (dueB to)) x.iD = false := by
  have e : l.takeWhile (dueB to) ++ l.dropWhile (dueB to) = l := List.takeWhile_append_dropWhile
  rw [← e, List.map_append, List.nodup_append] at hi
  rw [hasL_f]
  intro y hy e2
  exact hi.2.2 x.iD (List.mem_map.2 ⟨x, h, rfl⟩) y.iD (List.mem_map.2 ⟨y, hy, rfl⟩) e2.symm

end Go.Proofs.Ytfbmbjfcgoahfaa
