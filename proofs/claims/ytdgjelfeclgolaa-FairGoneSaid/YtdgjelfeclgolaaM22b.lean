/-
  Lanes that take turns: how many wait, and how many seats, behind each taking and dropping; plain laws.
-/
import Derived.Test.YtdgjelfeclgolaaF14
namespace Go.Proofs.Ytdgjelfeclgolaa
open Go Go.AM
set_option linter.unusedVariables false
set_option linter.unusedSimpArgs false

theorem sum_set {α : Type} {f : α → Int} : ∀ {l : List α} {k : Nat} {x a : α}, l[k]? = some x → ((l.set k a).map f).sum = (l.map f).sum - f x + f a
  | [], k, x, a, h => by simp at h
  | y :: l, 0, x, a, h => by
    simp at h
    subst h
    simp
    omega
  | y :: l, k + 1, x, a, h => by
    have := sum_set (f := f) (l := l) (k := k) (x := x) (a := a) (by simpa using h)
    simp only [List.set_cons_succ, List.map_cons, List.sum_cons, this]
    omega

theorem trim_sum (g : TLane → Int) (hg : ∀ l : TLane, l.wait.length = 0 → g l = 0) (o : Int) (l : List TLane) : ∀ n, n ≤ l.length → ((l.take (trimN o l n)).map g).sum = ((l.take n).map g).sum
  | 0, _ => rfl
  | n + 1, h => by
    rw [trimN]
    split
    · rename_i hc
      obtain ⟨x, hx⟩ := some_of_lt (l := l) (i := n) (by omega)
      rw [getD_of hx] at hc
      rw [trim_sum g hg o l n (by omega), sum_take hx, hg x hc.2]
      omega
    · rfl

theorem trim_sum' (g : TLane → Int) (hg : ∀ l : TLane, l.wait.length = 0 → g l = 0) (f : TFair) : ((ftrim f).lanes.map g).sum = (f.lanes.map g).sum := by
  have := trim_sum g hg f.open_ f.lanes f.lanes.length (Nat.le_refl _)
  rw [List.take_length] at this
  exact this

theorem waiting_trim (f : TFair) : waiting (ftrim f) = waiting f := trim_sum' _ (fun l h => by simp only [h]; rfl) f
theorem seats_nil {l : TLane} (h : l.wait.length = 0) : seats l = 0 := by
  rw [seats, List.length_eq_zero_iff.1 h]
  rfl
theorem fseats_trim (f : TFair) : fseats (ftrim f) = fseats f := trim_sum' _ (fun l h => seats_nil h) f

theorem sum_zero (g : TLane → Int) (hg : ∀ l, 0 ≤ g l) : ∀ l : List TLane, 0 ≤ (l.map g).sum ∧ ((l.map g).sum = 0 → ∀ x, x ∈ l → g x = 0)
  | [] => by simp
  | a :: l => by
    obtain ⟨h1, h2⟩ := sum_zero g hg l
    have h3 := hg a
    simp only [List.map_cons, List.sum_cons]
    refine ⟨by omega, fun h x hx => ?_⟩
    rcases List.mem_cons.1 hx with rfl | hx
    · omega
    · exact h2 (by omega) x hx

theorem waiting_nn (f : TFair) : 0 ≤ waiting f := (sum_zero (fun l => (l.wait.length : Int)) (fun l => by omega) f.lanes).1
theorem waiting_zero {f : TFair} (h : waiting f = 0) : ∀ l, l ∈ f.lanes → l.wait.length = 0 := fun l hl => by
  have := (sum_zero (fun l => (l.wait.length : Int)) (fun l => by omega) f.lanes).2 h l hl
  simpa using this
theorem sum_none (g : TLane → Int) : ∀ L : List TLane, (∀ l, l ∈ L → g l = 0) → (L.map g).sum = 0
  | [], _ => rfl
  | b :: L, h => by
    simp only [List.map_cons, List.sum_cons]
    rw [sum_none g L fun x hx => h x (List.mem_cons_of_mem _ hx), h b List.mem_cons_self]
    rfl
theorem waiting_none {f : TFair} (h : ∀ l, l ∈ f.lanes → l.wait.length = 0) : waiting f = 0 := sum_none _ _ fun l hl => by simp only [h l hl]; rfl
theorem fseats_none {f : TFair} (h : ∀ l, l ∈ f.lanes → l.wait.length = 0) : fseats f = 0 := sum_none _ _ fun l hl => seats_nil (h l hl)

/-- What is taken, if anybody waits. -/
theorem take_spec (f : TFair) : (next f = -1 ∧ waiting f = 0 ∧ ftake f = (f, zeroT, false)) ∨
    (∃ (k : Nat) (l : TLane) (t : TTicket) (w : List TTicket), next f = k ∧ f.lanes[k]? = some l ∧ l.wait = t :: w ∧ (ftake f).2 = (t, true) ∧ waiting (ftake f).1 = waiting f - 1 ∧ fseats (ftake f).1 = fseats f - wid t.width ∧
      (ftake f).1 = ftrim ⟨max f.r (add l.start (work t f.guess)), f.guess, f.length, f.open_, f.lanes.set k ⟨add l.start (work t f.guess), w⟩⟩) := by
  rcases next_cases f with ⟨h1, h2⟩ | ⟨k, l, t, w, h1, h2, h3, h4, h5⟩
  · refine .inl ⟨h1, waiting_none fun l hl => ?_, by rw [ftake, if_pos (by omega)]⟩
    obtain ⟨k, hk⟩ := List.getElem?_of_mem hl
    rw [h2 k l hk]
    rfl
  · have e2 : take l f.guess = (⟨add l.start (work t f.guess), w⟩, t, true) := by rw [take, h3]
    have e1 : ftake f = (ftrim ⟨max f.r (add l.start (work t f.guess)), f.guess, f.length, f.open_, f.lanes.set k ⟨add l.start (work t f.guess), w⟩⟩, t, true) := by
      rw [ftake, h1, if_neg (by omega), h4, Int.toNat_natCast, e2]
    refine .inr ⟨k, l, t, w, h1, h2, h3, by rw [e1], ?_, ?_, by rw [e1]⟩
    · rw [e1, waiting_trim]
      simp only [waiting]
      rw [sum_set h2, h3]
      simp only [List.length_cons]
      omega
    · rw [e1, fseats_trim]
      simp only [fseats]
      rw [sum_set h2]
      have : seats l = wid t.width + seats ⟨add l.start (work t f.guess), w⟩ := by simp only [seats, h3, List.map_cons, List.sum_cons]
      omega

theorem drop_spec (f : TFair) (id : Int) : (fdrop f id).2.2 = false ∧ (fdrop f id).1 = f ∨ (fdrop f id).2.2 = true ∧ (fdrop f id).2.1.iD = id ∧ waiting (fdrop f id).1 = waiting f - 1 := by
  rcases idx_cases (fun l => (drop l id).2.2) f.lanes with ⟨i, l, h1, h2, h3, h4, h5, h6⟩ | ⟨h1, h2, h3⟩
  · have e0 : dropAt f id = i := h1
    have e1 : fdrop f id = (ftrim ⟨f.r, f.guess, f.length, f.open_, f.lanes.set i (drop l id).1⟩, (drop l id).2.1, true) := by rw [fdrop, e0, if_pos (by omega), laneAt_nat h3, Int.toNat_natCast]
    rw [e1]
    refine .inr ⟨rfl, ?_⟩
    rcases drop_cases l id with ⟨j, t, k1, k2, k3, k4, k5, k6⟩ | ⟨k1, k2, k3⟩
    · rw [k5]
      refine ⟨k4, ?_⟩
      rw [waiting_trim]
      simp only [waiting]
      rw [sum_set h3]
      simp only [cut_len k2]
      omega
    · rw [k2] at h4
      cases h4
  · have e0 : dropAt f id = -1 := h1
    rw [fdrop, e0, if_neg (by omega)]
    exact .inl ⟨rfl, rfl⟩

end Go.Proofs.Ytdgjelfeclgolaa
