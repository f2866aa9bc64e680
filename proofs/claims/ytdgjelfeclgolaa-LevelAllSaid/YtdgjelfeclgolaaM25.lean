/-
  Who stayed too long, one by one: the least ID of those who are left, again and again.
-/
import Derived.Test.YtdgjelfeclgolaaM23
namespace Go.Proofs.Ytdgjelfeclgolaa
open Go Go.AM
set_option linter.unusedVariables false
set_option linter.unusedSimpArgs false

theorem ss_min {L A B : List TTicket} {m : TTicket} (hL : L = A ++ m :: B) (ha : ∀ x, x ∈ A → m.iD < x.iD) (hb : ∀ x, x ∈ B → m.iD ≤ x.iD) : ss (fun t : TTicket => t.iD) L = m :: ss (fun t : TTicket => t.iD) (A ++ B) := by
  subst hL
  refine (ss_of ?_ ?_).symm
  · refine List.pairwise_cons.2 ⟨fun y hy => ?_, ss_srt _⟩
    rcases List.mem_append.1 (ss_mem.1 hy) with h | h
    · exact Int.le_of_lt (ha y h)
    · exact hb y h
  · refine FP.trans (M := m :: (A ++ B)) ?_ (fun k => ?_)
    · intro k
      simp only [List.filter_cons, List.filter_append]
      by_cases h : m.iD = k
      · have : A.filter (fun x => decide (x.iD = k)) = [] := List.filter_eq_nil_iff.2 fun x hx => by
          have := ha x hx
          simp; omega
        simp [this, h]
      · simp [h]
    · have := ss_fp (key := fun t : TTicket => t.iD) (A ++ B) k
      simp only [List.filter_cons, this]

/-- A lane without its i-th. -/
def cutL (l : TLane) (i : Nat) : TLane := ⟨l.start, l.wait.take i ++ l.wait.drop (i + 1)⟩
/-- All lanes, without the i-th of the k-th. -/
def cutF (f : TFair) (k i : Nat) : TFair := ⟨f.r, f.guess, f.length, f.open_, f.lanes.set k (cutL (f.lanes.getD k zeroL) i)⟩

theorem trimN_keep (now : Int) (o : Int) (l : List TLane) : ∀ n, trimN o (l.map (keepL now)) n = trimN o (l.map (keepL now)) (trimN o l n)
  | 0 => rfl
  | n + 1 => by
    by_cases h : max o 0 < (n : Int) + 1 ∧ (l.getD n zeroL).wait.length = 0
    · have h2 : ((l.map (keepL now)).getD n zeroL).wait.length = 0 := by
        rw [List.getD_eq_getElem?_getD, List.getElem?_map]
        have := h.2
        rw [List.getD_eq_getElem?_getD] at this
        cases hq : l[n]? with
        | none => rfl
        | some x =>
          rw [hq] at this
          simp only [Option.getD_some] at this
          simp only [Option.map_some, Option.getD_some, keepL]
          have := List.length_filter_le (fun t : TTicket => !decide (t.until_ ≤ now)) x.wait
          omega
      rw [show trimN o l (n + 1) = trimN o l n from by rw [trimN, if_pos h], show trimN o (l.map (keepL now)) (n + 1) = trimN o (l.map (keepL now)) n from by rw [trimN, if_pos ⟨h.1, h2⟩]]
      exact trimN_keep now o l n
    · rw [show trimN o l (n + 1) = n + 1 from by rw [trimN, if_neg h]]
theorem trimN_take (o : Int) (l : List TLane) (t : Nat) : ∀ n, n ≤ t → trimN o (l.take t) n = trimN o l n
  | 0, _ => rfl
  | n + 1, h => by
    have e : (l.take t).getD n zeroL = l.getD n zeroL := by
      rw [List.getD_eq_getElem?_getD, List.getD_eq_getElem?_getD, List.getElem?_take, if_pos (by omega)]
    rw [trimN, trimN, e, trimN_take o l t n (by omega)]
theorem trim_keep (f : TFair) (now : Int) : ftrim (lateF (ftrim f) now) = ftrim (lateF f now) := by
  have h1 := trimN_le f.open_ f.lanes f.lanes.length
  have e : (List.take (trimN f.open_ f.lanes f.lanes.length) f.lanes).map (keepL now) = (f.lanes.map (keepL now)).take (trimN f.open_ f.lanes f.lanes.length) := by rw [List.map_take]
  have h2 := trimN_keep now f.open_ f.lanes f.lanes.length
  have h3 := trimN_le f.open_ (f.lanes.map (keepL now)) (trimN f.open_ f.lanes f.lanes.length)
  unfold ftrim lateF
  simp only [TFair.mk.injEq, true_and]
  rw [e, List.take_take, List.length_take, List.length_map, Nat.min_eq_left h1, trimN_take _ _ _ _ (Nat.le_refl _), ← h2, Nat.min_eq_left (by omega)]
theorem lateL_trim (f : TFair) (now : Int) : lateL (ftrim f) now = lateL f now := by
  have key : ∀ n, (f.lanes.take (trimN f.open_ f.lanes n)).flatMap (fun l => late l now) = (f.lanes.take n).flatMap fun l => late l now := by
    intro n
    induction n with
    | zero => rfl
    | succ n ih =>
      rw [trimN]
      split
      · rename_i h
        rw [ih]
        by_cases hn : n < f.lanes.length
        · obtain ⟨x, hx⟩ := some_of_lt hn
          have h2 := h.2
          rw [getD_of hx] at h2
          have : x.wait = [] := List.eq_nil_of_length_eq_zero h2
          rw [List.take_add_one, hx, List.flatMap_append]
          simp [late, this]
        · rw [List.take_of_length_le (by omega), List.take_of_length_le (by omega)]
      · rfl
  have := key f.lanes.length
  rw [List.take_length] at this
  exact this
theorem keep_none {l : TLane} {now : Int} (h : late l now = []) : keepL now l = l := by
  unfold late at h
  rw [List.filter_eq_nil_iff] at h
  have : l.wait.filter (fun t => !decide (t.until_ ≤ now)) = l.wait := List.filter_eq_self.2 fun t ht => by
    have := h t ht
    simpa using this
  rw [keepL, this]
theorem lateF_none {f : TFair} {now : Int} (h : lateL f now = []) : lateF f now = f := by
  unfold lateL at h
  rw [List.flatMap_eq_nil_iff] at h
  have : f.lanes.map (keepL now) = f.lanes := (List.map_congr_left fun l hl => keep_none (h l hl)).trans (List.map_id' _)
  rw [lateF, this]
theorem trim_idem (f : TFair) : ftrim (ftrim f) = ftrim f := by
  have key : ∀ n, trimN f.open_ f.lanes (trimN f.open_ f.lanes n) = trimN f.open_ f.lanes n := by
    intro n
    induction n with
    | zero => rfl
    | succ n ih =>
      by_cases h : max f.open_ 0 < (n : Int) + 1 ∧ (f.lanes.getD n zeroL).wait.length = 0
      · rw [show trimN f.open_ f.lanes (n + 1) = trimN f.open_ f.lanes n from by rw [trimN, if_pos h]]
        exact ih
      · rw [show trimN f.open_ f.lanes (n + 1) = n + 1 from by rw [trimN, if_neg h], trimN, if_neg h]
  have h1 := trimN_le f.open_ f.lanes f.lanes.length
  unfold ftrim
  simp only [TFair.mk.injEq, true_and]
  rw [List.take_take, List.length_take, Nat.min_eq_left h1, trimN_take _ _ _ _ (Nat.le_refl _), key, Nat.min_eq_left (Nat.le_refl _)]

/-- What is to come: the lanes at the end, those who go. -/
def lateR (f : TFair) (now : Int) : TFair × List TTicket := (if lateL f now = [] then f else ftrim (lateF f now), ss (fun t : TTicket => t.iD) (lateL f now))

theorem cut_wait {l : TLane} {i : Nat} {m : TTicket} (hi : l.wait[i]? = some m) : l.wait = l.wait.take i ++ m :: l.wait.drop (i + 1) := by
  have h := (List.getElem?_eq_some_iff.1 hi).1
  have := List.take_append_drop i l.wait
  rw [List.drop_eq_getElem_cons h] at this
  rw [(List.getElem?_eq_some_iff.1 hi).2] at this
  exact this.symm
theorem lateL_cut {f : TFair} {now : Int} {k i : Nat} {l : TLane} {m : TTicket} (hk : f.lanes[k]? = some l) (hi : l.wait[i]? = some m) (hm : m.until_ ≤ now) :
    ∃ A B, lateL f now = A ++ m :: B ∧ lateL (cutF f k i) now = A ++ B ∧ A = (f.lanes.take k).flatMap (fun l => late l now) ++ (l.wait.take i).filter (fun t => decide (t.until_ ≤ now)) ∧
      B = (l.wait.drop (i + 1)).filter (fun t => decide (t.until_ ≤ now)) ++ (f.lanes.drop (k + 1)).flatMap fun l => late l now := by
  refine ⟨_, _, ?_, ?_, rfl, rfl⟩
  · have h := (List.getElem?_eq_some_iff.1 hk).1
    have e : f.lanes = f.lanes.take k ++ l :: f.lanes.drop (k + 1) := by
      have := List.take_append_drop k f.lanes
      rw [List.drop_eq_getElem_cons h, (List.getElem?_eq_some_iff.1 hk).2] at this
      exact this.symm
    have e2 : late l now = (l.wait.take i).filter (fun t => decide (t.until_ ≤ now)) ++ m :: (l.wait.drop (i + 1)).filter (fun t => decide (t.until_ ≤ now)) := by
      unfold late
      conv => lhs; rw [cut_wait hi]
      rw [List.filter_append, List.filter_cons, if_pos (by simpa using hm)]
    unfold lateL
    conv => lhs; rw [e]
    rw [List.flatMap_append, List.flatMap_cons, e2]
    simp only [List.append_assoc, List.cons_append]
  · have h := (List.getElem?_eq_some_iff.1 hk).1
    unfold lateL cutF
    simp only []
    rw [getD_of hk, List.set_eq_take_append_cons_drop, if_pos h, List.flatMap_append, List.flatMap_cons]
    have e2 : late (cutL l i) now = (l.wait.take i).filter (fun t => decide (t.until_ ≤ now)) ++ (l.wait.drop (i + 1)).filter (fun t => decide (t.until_ ≤ now)) := by
      unfold late cutL
      rw [List.filter_append]
    rw [e2]
    simp only [List.append_assoc]
theorem lateF_cut {f : TFair} {now : Int} {k i : Nat} {l : TLane} {m : TTicket} (hk : f.lanes[k]? = some l) (hi : l.wait[i]? = some m) (hm : m.until_ ≤ now) : lateF (cutF f k i) now = lateF f now := by
  unfold lateF cutF
  simp only [TFair.mk.injEq, true_and]
  rw [getD_of hk, List.map_set]
  have e : keepL now (cutL l i) = keepL now l := by
    unfold keepL cutL
    simp only [TLane.mk.injEq, true_and]
    conv => rhs; rw [cut_wait hi]
    rw [List.filter_append, List.filter_append, List.filter_cons, if_neg (by simp; omega)]
  rw [e]
  have h := (List.getElem?_eq_some_iff.1 hk).1
  refine List.ext_getElem? fun j => ?_
  rw [List.getElem?_set]
  split
  · rename_i h2
    subst h2
    simp [h, e, (List.getElem?_eq_some_iff.1 hk).2]
  · rfl

/-- One round: the least one goes. -/
theorem lateR_step {f : TFair} {now : Int} {k i : Nat} {l : TLane} {m : TTicket} (hk : f.lanes[k]? = some l) (hi : l.wait[i]? = some m) (hm : m.until_ ≤ now)
    (h1 : ∀ j l' x, j < k → f.lanes[j]? = some l' → x ∈ l'.wait → x.until_ ≤ now → m.iD < x.iD) (h2 : ∀ j x, j < i → l.wait[j]? = some x → x.until_ ≤ now → m.iD < x.iD)
    (h3 : ∀ (j : Nat) l' x, f.lanes[j]? = some l' → x ∈ l'.wait → x.until_ ≤ now → m.iD ≤ x.iD) :
    (lateR f now).1 = (lateR (ftrim (cutF f k i)) now).1 ∧ (lateR f now).2 = m :: (lateR (ftrim (cutF f k i)) now).2 := by
  obtain ⟨A, B, e1, e2, hA, hB⟩ := lateL_cut hk hi hm
  have e3 := lateF_cut hk hi hm
  have ne : lateL f now ≠ [] := by rw [e1]; simp
  constructor
  · unfold lateR
    simp only []
    rw [if_neg ne, lateL_trim]
    split
    · rename_i h
      rw [← e3, lateF_none h]
    · rw [trim_keep, e3]
  · unfold lateR
    simp only []
    rw [lateL_trim, e2]
    refine ss_min e1 (fun x hx => ?_) (fun x hx => ?_)
    · rw [hA] at hx
      rcases List.mem_append.1 hx with hx | hx
      · obtain ⟨l', hl', hx⟩ := List.mem_flatMap.1 hx
        obtain ⟨j, hj⟩ := List.getElem?_of_mem hl'
        rw [List.getElem?_take] at hj
        split at hj
        · rename_i hjk
          obtain ⟨q1, q2⟩ := List.mem_filter.1 hx
          exact h1 j l' x hjk hj q1 (by simpa using q2)
        · cases hj
      · obtain ⟨q1, q2⟩ := List.mem_filter.1 hx
        obtain ⟨j, hj⟩ := List.getElem?_of_mem q1
        rw [List.getElem?_take] at hj
        split at hj
        · rename_i hji
          exact h2 j x hji hj (by simpa using q2)
        · cases hj
    · rw [hB] at hx
      rcases List.mem_append.1 hx with hx | hx
      · obtain ⟨q1, q2⟩ := List.mem_filter.1 hx
        exact h3 k l x hk (List.mem_of_mem_drop q1) (by simpa using q2)
      · obtain ⟨l', hl', hx⟩ := List.mem_flatMap.1 hx
        obtain ⟨q1, q2⟩ := List.mem_filter.1 hx
        obtain ⟨j, hj⟩ := List.getElem?_of_mem (List.mem_of_mem_drop hl')
        exact h3 j l' x hj q1 (by simpa using q2)

/-- How far the search has come: up to the i-th of the k-th lane; what it holds. -/
def before (j j2 k i : Nat) : Prop := j < k ∨ (j = k ∧ j2 < i)
def Best (f : TFair) (now : Int) (k i : Nat) (lane at_ : Int) : Prop :=
  (at_ = -1 ∧ lane = -1 ∧ ∀ (j j2 : Nat) l x, before j j2 k i → f.lanes[j]? = some l → l.wait[j2]? = some x → ¬ x.until_ ≤ now) ∨
  (∃ (a b : Nat) (l : TLane) (m : TTicket), lane = a ∧ at_ = b ∧ f.lanes[a]? = some l ∧ l.wait[b]? = some m ∧ m.until_ ≤ now ∧ before a b k i ∧
    ∀ (j j2 : Nat) l' x, before j j2 k i → f.lanes[j]? = some l' → l'.wait[j2]? = some x → x.until_ ≤ now → m.iD ≤ x.iD ∧ (before j j2 a b → m.iD < x.iD))
theorem best_zero (f : TFair) (now : Int) : Best f now 0 0 (-1) (-1) := .inl ⟨rfl, rfl, fun j j2 l x h => by unfold before at h; omega⟩
theorem best_lane {f : TFair} {now : Int} {k : Nat} {lane at_ : Int} {l : TLane} (hk : f.lanes[k]? = some l) (h : Best f now k l.wait.length lane at_) : Best f now (k + 1) 0 lane at_ := by
  have key : ∀ (j j2 : Nat) (l' : TLane) (x : TTicket), before j j2 (k + 1) 0 → f.lanes[j]? = some l' → l'.wait[j2]? = some x → before j j2 k l.wait.length := fun j j2 l' x hb hj hx => by
    unfold before at hb ⊢
    rcases Nat.lt_or_ge j k with h1 | h1
    · exact .inl h1
    · obtain rfl : j = k := by omega
      rw [hk] at hj
      injection hj with hj
      subst hj
      exact .inr ⟨rfl, (List.getElem?_eq_some_iff.1 hx).1⟩
  rcases h with ⟨h1, h2, h3⟩ | ⟨a, b, l', m, h1, h2, h3, h4, h5, h6, h7⟩
  · exact .inl ⟨h1, h2, fun j j2 l' x hb hj hx => h3 j j2 l' x (key j j2 l' x hb hj hx) hj hx⟩
  · refine .inr ⟨a, b, l', m, h1, h2, h3, h4, h5, ?_, fun j j2 l' x hb hj hx => h7 j j2 l' x (key j j2 l' x hb hj hx) hj hx⟩
    unfold before at h6 ⊢
    omega
theorem bef_succ {j j2 k i : Nat} (h : before j j2 k (i + 1)) : before j j2 k i ∨ (j = k ∧ j2 = i) := by unfold before at h ⊢; omega
theorem best_skip {f : TFair} {now : Int} {k i : Nat} {lane at_ : Int} {l : TLane} {x : TTicket} (hk : f.lanes[k]? = some l) (hi : l.wait[i]? = some x) (hx : ¬ x.until_ ≤ now) (h : Best f now k i lane at_) : Best f now k (i + 1) lane at_ := by
  rcases h with ⟨h1, h2, h3⟩ | ⟨a, b, l', m, h1, h2, h3, h4, h5, h6, h7⟩
  · refine .inl ⟨h1, h2, fun j j2 l' y hb hj hy => ?_⟩
    rcases bef_succ hb with hb | ⟨rfl, rfl⟩
    · exact h3 j j2 l' y hb hj hy
    · rw [hk] at hj
      injection hj with hj
      subst hj
      rw [hi] at hy
      injection hy with hy
      subst hy
      exact hx
  · refine .inr ⟨a, b, l', m, h1, h2, h3, h4, h5, by unfold before at h6 ⊢; omega, fun j j2 l2 y hb hj hy hl => ?_⟩
    rcases bef_succ hb with hb | ⟨rfl, rfl⟩
    · exact h7 j j2 l2 y hb hj hy hl
    · rw [hk] at hj
      injection hj with hj
      subst hj
      rw [hi] at hy
      injection hy with hy
      subst hy
      exact absurd hl hx
theorem best_keep {f : TFair} {now : Int} {k i a b : Nat} {l l' : TLane} {x m : TTicket} (hk : f.lanes[k]? = some l) (hi : l.wait[i]? = some x) (ha : f.lanes[a]? = some l') (hb : l'.wait[b]? = some m) (hm : ¬ x.iD < m.iD) (h : Best f now k i a b) : Best f now k (i + 1) a b := by
  rcases h with ⟨h1, _⟩ | ⟨a', b', l2, m2, h1, h2, h3, h4, h5, h6, h7⟩
  · omega
  · obtain rfl : a = a' := by omega
    obtain rfl : b = b' := by omega
    rw [ha] at h3
    injection h3 with h3
    subst h3
    rw [hb] at h4
    injection h4 with h4
    subst h4
    refine .inr ⟨a, b, l', m, rfl, rfl, ha, hb, h5, by unfold before at h6 ⊢; omega, fun j j2 l2 y hb2 hj hy hl => ?_⟩
    rcases bef_succ hb2 with hb2 | ⟨rfl, rfl⟩
    · exact h7 j j2 l2 y hb2 hj hy hl
    · rw [hk] at hj
      injection hj with hj
      subst hj
      rw [hi] at hy
      injection hy with hy
      subst hy
      exact ⟨by omega, fun hq => by unfold before at hq h6; omega⟩
theorem best_take {f : TFair} {now : Int} {k i : Nat} {lane at_ : Int} {l : TLane} {x : TTicket} (hk : f.lanes[k]? = some l) (hi : l.wait[i]? = some x) (hx : x.until_ ≤ now) (h : Best f now k i lane at_)
    (hm : ∀ (a b : Nat) l' m, lane = a → at_ = b → f.lanes[a]? = some l' → l'.wait[b]? = some m → x.iD < m.iD) : Best f now k (i + 1) k i := by
  refine .inr ⟨k, i, l, x, rfl, rfl, hk, hi, hx, by unfold before; omega, fun j j2 l2 y hb2 hj hy hl => ?_⟩
  rcases bef_succ hb2 with hb2 | ⟨rfl, rfl⟩
  · rcases h with ⟨h1, h2, h3⟩ | ⟨a, b, l', m, h1, h2, h3, h4, h5, h6, h7⟩
    · exact absurd hl (h3 j j2 l2 y hb2 hj hy)
    · have := hm a b l' m h1 h2 h3 h4
      have := (h7 j j2 l2 y hb2 hj hy hl).1
      exact ⟨by omega, fun _ => by omega⟩
  · rw [hk] at hj
    injection hj with hj
    subst hj
    rw [hi] at hy
    injection hy with hy
    subst hy
    exact ⟨by omega, fun hq => by unfold before at hq; omega⟩
theorem best_get {f : TFair} {now : Int} {k i : Nat} {lane at_ : Int} (h : Best f now k i lane at_) : (at_ = -1 ∧ lane = -1) ∨ ∃ (a b : Nat) (l : TLane) (m : TTicket), lane = a ∧ at_ = b ∧ f.lanes[a]? = some l ∧ l.wait[b]? = some m ∧ m.until_ ≤ now := by
  rcases h with ⟨h1, h2, _⟩ | ⟨a, b, l', m, h1, h2, h3, h4, h5, _⟩
  · exact .inl ⟨h1, h2⟩
  · exact .inr ⟨a, b, l', m, h1, h2, h3, h4, h5⟩
theorem best_none {f : TFair} {now : Int} (h : Best f now f.lanes.length 0 (-1) (-1)) : lateL f now = [] := by
  rcases h with ⟨_, _, h3⟩ | ⟨a, b, l', m, h1, _⟩
  · unfold lateL
    rw [List.flatMap_eq_nil_iff]
    intro l hl
    obtain ⟨j, hj⟩ := List.getElem?_of_mem hl
    refine List.filter_eq_nil_iff.2 fun x hx => ?_
    obtain ⟨j2, hj2⟩ := List.getElem?_of_mem hx
    have := h3 j j2 l x (.inl (List.getElem?_eq_some_iff.1 hj).1) hj hj2
    simpa using this
  · omega
theorem best_step {f : TFair} {now : Int} {a b : Nat} {l : TLane} {m : TTicket} (ha : f.lanes[a]? = some l) (hb : l.wait[b]? = some m) (h : Best f now f.lanes.length 0 a b) :
    (lateR f now).1 = (lateR (ftrim (cutF f a b)) now).1 ∧ (lateR f now).2 = m :: (lateR (ftrim (cutF f a b)) now).2 := by
  rcases h with ⟨h1, _⟩ | ⟨a', b', l2, m2, h1, h2, h3, h4, h5, h6, h7⟩
  · omega
  · obtain rfl : a = a' := by omega
    obtain rfl : b = b' := by omega
    rw [ha] at h3
    injection h3 with h3
    subst h3
    rw [hb] at h4
    injection h4 with h4
    subst h4
    have lt : ∀ (j : Nat) l', f.lanes[j]? = some l' → j < f.lanes.length := fun j l' h => (List.getElem?_eq_some_iff.1 h).1
    refine lateR_step ha hb h5 (fun j l' x hj hl' hx hl => ?_) (fun j x hj hx hl => ?_) fun j l' x hl' hx hl => ?_
    · obtain ⟨j2, hj2⟩ := List.getElem?_of_mem hx
      exact (h7 j j2 l' x (.inl (lt j l' hl')) hl' hj2 hl).2 (.inl hj)
    · exact (h7 a j l x (.inl (lt a l ha)) ha hx hl).2 (.inr ⟨rfl, hj⟩)
    · obtain ⟨j2, hj2⟩ := List.getElem?_of_mem hx
      exact (h7 j j2 l' x (.inl (lt j l' hl')) hl' hj2 hl).1
theorem lateR_fin {f : TFair} {now : Int} (h : lateL f now = []) : lateR f now = (f, []) := by
  unfold lateR
  rw [if_pos h, h]
  rfl
/-- How many there are to go. -/
theorem lateL_len {f : TFair} {now : Int} {a b : Nat} {l : TLane} {m : TTicket} (ha : f.lanes[a]? = some l) (hb : l.wait[b]? = some m) (hm : m.until_ ≤ now) : (lateL (ftrim (cutF f a b)) now).length + 1 = (lateL f now).length := by
  obtain ⟨A, B, e1, e2, _⟩ := lateL_cut ha hb hm
  rw [lateL_trim, e1, e2]
  simp only [List.length_append, List.length_cons]
  omega
theorem okF_cut {n m : Nat} {f : TFair} (h : okF n m f) (a b : Nat) : okF n m (cutF f a b) := by
  unfold cutF
  rcases Nat.lt_or_ge a f.lanes.length with h1 | h1
  · obtain ⟨l, hl⟩ := some_of_lt h1
    rw [getD_of hl]
    have h2 := h.2 l (List.mem_of_getElem? hl)
    exact h.set a (cutL l b) h2.1 (by have := h2.2; simp only [cutL, List.length_append, List.length_take, List.length_drop]; omega) _ _ _ _
  · rw [List.set_eq_of_length_le h1]
    exact h

theorem lateL_le {f : TFair} (h : okF 1000 1000 f) (now : Int) : (lateL f now).length ≤ 1000000 := by
  have key : ∀ l : List TLane, (∀ x, x ∈ l → x.wait.length ≤ 1000) → (l.flatMap fun l => late l now).length ≤ l.length * 1000 := by
    intro l
    induction l with
    | nil => intro _; simp
    | cons a l ih =>
      intro hl
      have h1 := hl a (List.mem_cons_self ..)
      have h2 := ih fun x hx => hl x (List.mem_cons_of_mem _ hx)
      have h3 : (late a now).length ≤ a.wait.length := List.length_filter_le _ _
      rw [List.flatMap_cons, List.length_append, List.length_cons, Nat.succ_mul]
      omega
  have h1 := key f.lanes fun x hx => (h.2 x hx).2
  have := Nat.mul_le_mul_right 1000 h.1
  unfold lateL
  omega

end Go.Proofs.Ytdgjelfeclgolaa
