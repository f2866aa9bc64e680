/-
  Nobody is lost, or there twice: the IDs of all who wait or run; plain.
-/
import Derived.Test.YtdgjelfeclgolaaM24
namespace Go.Proofs.Ytdgjelfeclgolaa
open Go Go.AM
set_option linter.unusedVariables false
set_option linter.unusedSimpArgs false

def widsOf (l : List TTicket) : List Int := l.map (·.iD)
def fids (f : TFair) : List Int := f.lanes.flatMap fun l => widsOf l.wait
def ids (s : TState) : List Int := widsOf s.running ++ fids s.fair

theorem fids_trim (f : TFair) : fids (ftrim f) = fids f := by
  have key : ∀ n, (f.lanes.take (trimN f.open_ f.lanes n)).flatMap (fun l => widsOf l.wait) = (f.lanes.take n).flatMap fun l => widsOf l.wait := by
    intro n
    induction n with
    | zero => rfl
    | succ n ih =>
      rw [trimN]
      split
      · rename_i h
        rw [ih]
        by_cases hn : n < f.lanes.length
        · obtain ⟨x, hx⟩ := some_of_lt hn
          have h2 := h.2
          rw [getD_of hx] at h2
          have : x.wait = [] := List.eq_nil_of_length_eq_zero h2
          rw [List.take_add_one, hx, List.flatMap_append]
          simp [widsOf, this]
        · rw [List.take_of_length_le (by omega), List.take_of_length_le (by omega)]
      · rfl
  have := key f.lanes.length
  rw [List.take_length] at this
  exact this
theorem flat_set {l : List TLane} {k : Nat} {x A : TLane} (g : TLane → List Int) (h : l[k]? = some x) : ((l.set k A).flatMap g ++ g x).Perm (l.flatMap g ++ g A) := by
  have h1 := (List.getElem?_eq_some_iff.1 h).1
  have e : l = l.take k ++ x :: l.drop (k + 1) := by
    have := List.take_append_drop k l
    rw [List.drop_eq_getElem_cons h1, (List.getElem?_eq_some_iff.1 h).2] at this
    exact this.symm
  have e2 : l.set k A = l.take k ++ A :: l.drop (k + 1) := by rw [List.set_eq_take_append_cons_drop, if_pos h1]
  have e3 : l.flatMap g = (l.take k).flatMap g ++ (g x ++ (l.drop (k + 1)).flatMap g) := by
    conv => lhs; rw [e]
    rw [List.flatMap_append, List.flatMap_cons]
  rw [e2, e3, List.flatMap_append, List.flatMap_cons]
  simp only [List.append_assoc]
  refine List.Perm.append_left _ ?_
  exact List.perm_iff_count.2 fun a => by simp only [List.count_append]; omega

theorem ftake_ids {f : TFair} (h : (ftake f).2.2 = true) : (fids (ftake f).1 ++ [(ftake f).2.1.iD]).Perm (fids f) := by
  rcases next_cases f with ⟨h1, _⟩ | ⟨k, l, t, w, h1, hx, h3, h4, _⟩
  · rw [ftake, if_pos (by omega)] at h
    cases h
  · have e2 : take l f.guess = (⟨add l.start (work t f.guess), w⟩, t, true) := by rw [take, h3]
    rw [ftake, h1, if_neg (by omega), h4, e2, Int.toNat_natCast, fids_trim]
    have := flat_set (A := ⟨add l.start (work t f.guess), w⟩) (fun l : TLane => widsOf l.wait) hx
    unfold fids
    refine List.perm_iff_count.2 fun a => ?_
    have := List.perm_iff_count.1 this a
    simp only [h3, widsOf, List.map_cons, List.count_append, List.count_cons, List.count_nil] at this ⊢
    omega
theorem ldispN_ids : ∀ (n : Nat) (s : TState) (out : List TTicket), (ids (ldispN n s out).1).Perm (ids s)
  | 0, s, out => List.Perm.refl _
  | n + 1, s, out => by
    rw [ldispN]
    split
    · rename_i h
      refine (ldispN_ids n _ _).trans ?_
      have := ftake_ids h.1
      refine List.perm_iff_count.2 fun a => ?_
      have := List.perm_iff_count.1 this a
      simp only [ids, withFair, withRun, widsOf, seated, List.map_append, List.map_cons, List.map_nil, List.count_append, List.count_cons, List.count_nil] at this ⊢
      omega
    · exact List.Perm.refl _

theorem ldone_ids {s : TState} {id : Int} (h : (ldone s id).2.2 = 0) : (ids (ldone s id).1 ++ [(ldone s id).2.1.iD]).Perm (ids s) := by
  unfold ldone at h ⊢
  split at h
  · exact absurd h (by decide)
  · rename_i g
    rw [if_neg g]
    rcases idx_cases (fun t : TTicket => t.iD == id) s.running with ⟨i, t, e1, hi, ht, _⟩ | ⟨e1, _⟩
    · simp only [e1, Int.toNat_natCast]
      have e2 : s.running.getD i zeroT = t := by rw [List.getD_eq_getElem?_getD, ht]; rfl
      rw [e2]
      have e3 : s.running = s.running.take i ++ t :: s.running.drop (i + 1) := by
        have := List.take_append_drop i s.running
        rw [List.drop_eq_getElem_cons hi, (List.getElem?_eq_some_iff.1 ht).2] at this
        exact this.symm
      refine List.perm_iff_count.2 fun a => ?_
      have e4 : (widsOf s.running).count a = (widsOf (s.running.take i)).count a + ((widsOf (s.running.drop (i + 1))).count a + ([t.iD].count a)) := by
        conv => lhs; rw [e3]
        simp only [widsOf, List.map_append, List.map_cons, List.count_append, List.count_cons, List.count_nil]
        omega
      simp only [ids, withRun, List.eraseIdx_eq_take_drop_succ, List.count_append, e4]
      simp only [widsOf, List.map_append, List.count_append]
      omega
    · omega
theorem fids_grow (f : TFair) (r g n o : Int) : fids ⟨r, g, n, o, grow f.lanes o⟩ = fids f := by
  unfold fids grow
  simp only [List.flatMap_append]
  have : (List.replicate (o.toNat - f.lanes.length) zeroL).flatMap (fun l => widsOf l.wait) = [] := by
    rw [List.flatMap_eq_nil_iff]
    intro l hl
    rw [(List.mem_replicate.1 hl).2]
    rfl
  rw [this, List.append_nil]
theorem lturn_ids (s : TState) (l : TLevel) (q : Bool) : ids (lturn s l q) = ids s := by
  have h1 : fids (shut s.fair) = fids s.fair := fids_trim ⟨s.fair.r, s.fair.guess, s.fair.length, 0, s.fair.lanes⟩
  unfold ids lturn
  simp only []
  split
  · rename_i h
    congr 1
    have h2 := h.2.2
    rw [shape] at h2 ⊢
    split at h2
    · rename_i hm
      rw [if_pos hm, fids_trim]
      exact fids_grow s.fair _ _ _ _
    · exact absurd h2 (by decide)
  · rw [h1]

theorem cut_ids {l : List TTicket} {i : Nat} {t : TTicket} (ht : l[i]? = some t) (a : Int) : (widsOf l).count a = (widsOf (l.eraseIdx i)).count a + [t.iD].count a := by
  have hi := (List.getElem?_eq_some_iff.1 ht).1
  have e3 : l = l.take i ++ t :: l.drop (i + 1) := by
    have := List.take_append_drop i l
    rw [List.drop_eq_getElem_cons hi, (List.getElem?_eq_some_iff.1 ht).2] at this
    exact this.symm
  rw [List.eraseIdx_eq_take_drop_succ]
  conv => lhs; rw [e3]
  simp only [widsOf, List.map_append, List.map_cons, List.count_append, List.count_cons, List.count_nil]
  omega
theorem fjoin_ids {f : TFair} {hand : List Int} {t : TTicket} (h : (fjoin f hand t).2.2 = 0) : (fids (fjoin f hand t).1).Perm (fids f ++ [t.iD]) := by
  rcases choose_cases f hand with h1 | ⟨h1, h2, h3⟩
  · rw [fjoin, if_pos (by omega)] at h
    exact absurd h (by decide)
  · have hx := laneAt_get h1 h3
    rw [fjoin, if_neg (by omega)] at h ⊢
    split at h
    · exact absurd h (by decide)
    · rename_i g
      rw [if_neg g]
      have := flat_set (A := join (laneAt f (choose f hand)) f.r t) (fun l : TLane => widsOf l.wait) hx
      refine List.perm_iff_count.2 fun a => ?_
      have := List.perm_iff_count.1 this a
      simp only [join, widsOf, List.map_append, List.map_cons, List.map_nil, List.count_append] at this
      simp only [fids, join, widsOf, List.count_append]
      omega

theorem fdrop_ids {f : TFair} {id : Int} (h : (fdrop f id).2.2 = true) : (fids (fdrop f id).1 ++ [(fdrop f id).2.1.iD]).Perm (fids f) := by
  rw [fdrop] at h ⊢
  split at h
  · rename_i g
    rw [if_pos g]
    rcases idx_cases (fun l : TLane => (drop l id).2.2) f.lanes with ⟨k, l, e1, hk, hl, hd, _⟩ | ⟨e1, _⟩
    · have e2 : dropAt f id = k := e1
      rw [e2, Int.toNat_natCast, laneAt_nat hl, fids_trim]
      rcases drop_cases l id with ⟨i, t, _, hi, ht, _, e3, _⟩ | ⟨_, e3, _⟩
      · rw [e3]
        have := flat_set (A := ⟨l.start, l.wait.eraseIdx i⟩) (fun l : TLane => widsOf l.wait) hl
        refine List.perm_iff_count.2 fun a => ?_
        have := List.perm_iff_count.1 this a
        have h2 := cut_ids ht a
        simp only [List.count_append] at this
        simp only [fids, List.count_append]
        omega
      · rw [e3] at hd
        exact absurd hd (by simp)
    · have e2 : dropAt f id = -1 := e1
      omega
  · cases h
theorem ldrop_ids {s : TState} {id : Int} (h : (ldrop s id).2.2 = 0) : (ids (ldrop s id).1 ++ [(ldrop s id).2.1.iD]).Perm (ids s) := by
  unfold ldrop at h ⊢
  split at h
  · rename_i g
    rw [if_pos g]
    have := fdrop_ids g
    refine List.perm_iff_count.2 fun a => ?_
    have := List.perm_iff_count.1 this a
    simp only [List.count_append] at this
    simp only [ids, withFair, List.count_append]
    omega
  · exact absurd h (by decide)

theorem wids_count (l : List TTicket) (a : Int) : (widsOf l).count a = (l.filter fun x => decide (x.iD = a)).length := by
  induction l with
  | nil => rfl
  | cons x l ih =>
    simp only [widsOf, List.map_cons, List.count_cons, List.filter_cons] at ih ⊢
    by_cases h : x.iD = a
    · simp [h, ih]
    · simp [h, ih]
theorem ss_wids (l : List TTicket) (a : Int) : (widsOf (ss (fun t : TTicket => t.iD) l)).count a = (widsOf l).count a := by
  rw [wids_count, wids_count, ss_fp (key := fun t : TTicket => t.iD) l a]
theorem keep_count (now : Int) (a : Int) : ∀ L : List TLane, ((L.map (keepL now)).flatMap fun l => widsOf l.wait).count a + (widsOf (L.flatMap fun l => late l now)).count a = (L.flatMap fun l => widsOf l.wait).count a
  | [] => rfl
  | l :: L => by
    have ih := keep_count now a L
    have h1 : ∀ w : List TTicket, (widsOf (w.filter fun t => !decide (t.until_ ≤ now))).count a + (widsOf (w.filter fun t => decide (t.until_ ≤ now))).count a = (widsOf w).count a := by
      intro w
      induction w with
      | nil => rfl
      | cons x w ihw =>
        simp only [widsOf] at ihw
        by_cases h : x.until_ ≤ now
        · simp only [widsOf, List.filter_cons, h, decide_true, Bool.not_true, Bool.false_eq_true, if_false, if_true, List.map_cons, List.count_cons]
          omega
        · simp only [widsOf, List.filter_cons, h, decide_false, Bool.not_false, Bool.false_eq_true, if_false, if_true, List.map_cons, List.count_cons]
          omega
    have h2 := h1 l.wait
    simp only [List.map_cons, List.flatMap_cons, widsOf, List.map_append, List.count_append, keepL, late] at ih h2 ⊢
    omega
theorem llate_ids (s : TState) (now : Int) : (ids (llate s now).1 ++ widsOf (llate s now).2).Perm (ids s) := by
  refine List.perm_iff_count.2 fun a => ?_
  have h := keep_count now a s.fair.lanes
  simp only [llate, ids, withFair, List.count_append, ss_wids]
  split
  · rename_i hn
    rw [hn]
    simp [widsOf]
  · rw [fids_trim]
    simp only [fids, lateF, lateL] at h ⊢
    omega

theorem larrive_ids {s : TState} {t : TTicket} {hand : List Int} (h : (larrive s t hand).2 = 0) : (ids (larrive s t hand).1).Perm (ids s ++ [t.iD]) := by
  unfold larrive at h ⊢
  split at h
  · exact absurd h (by decide)
  · rename_i g1
    rw [if_neg g1]
    split at h
    · rename_i g2
      rw [if_pos g2]
      split at h
      · rename_i g3
        rw [if_pos g3]
        have := fjoin_ids g3
        refine List.perm_iff_count.2 fun a => ?_
        have := List.perm_iff_count.1 this a
        simp only [seated, List.count_append] at this
        simp only [ids, withFair, seated, List.count_append]
        omega
      · rename_i g3
        exact absurd h g3
    · rename_i g2
      rw [if_neg g2]
      split at h
      · exact absurd h (by decide)
      · rename_i g3
        rw [if_neg g3]
        split at h
        · rename_i g4
          rw [if_pos g4]
          refine List.perm_iff_count.2 fun a => ?_
          simp only [ids, withRun, widsOf, seated, List.map_append, List.map_cons, List.map_nil, List.count_append]
          omega
        · exact absurd h (by decide)

theorem seats_set : ∀ {l : List TLane} {k : Nat} {x A : TLane}, l[k]? = some x → ((l.set k A).map seats).sum + seats x = (l.map seats).sum + seats A
  | a :: l, 0, x, A, h => by
    simp only [List.getElem?_cons_zero, Option.some.injEq] at h
    subst h
    simp only [List.set_cons_zero, List.map_cons, List.sum_cons]; omega
  | a :: l, k + 1, x, A, h => by
    rw [List.getElem?_cons_succ] at h
    have := seats_set (A := A) h
    simp only [List.set_cons_succ, List.map_cons, List.sum_cons]; omega
theorem fits_pos {s : TState} {w : Int} (h : (fits s w).2 = true) : 1 ≤ (fits s w).1 := by
  have hw := wid_le w
  unfold fits at h ⊢
  split at h
  · rename_i g; rw [if_pos g]; exact hw.1
  · rename_i g
    rw [if_neg g]
    split at h
    · cases h
    · rename_i g2
      rw [if_neg g2]
      split at h
      · rename_i g3; rw [if_pos g3]; simp only []; omega
      · rename_i g3
        rw [if_neg g3]
        split at h
        · rename_i g4; rw [if_pos g4]; exact hw.1
        · cases h
theorem larrive_wants {s : TState} {t : TTicket} {hand : List Int} (h : (larrive s t hand).2 = 0) : wants s < wants (larrive s t hand).1 := by
  unfold larrive at h ⊢
  split at h
  · exact absurd h (by decide)
  · rename_i g1
    rw [if_neg g1]
    split at h
    · rename_i g2
      rw [if_pos g2]
      split at h
      · rename_i g3
        rw [if_pos g3]
        rcases choose_cases s.fair hand with h1 | ⟨h1, h2, h3⟩
        · rw [fjoin, if_pos (by omega)] at g3
          exact absurd g3 (by decide)
        · have hx := laneAt_get h1 h3
          rw [fjoin, if_neg (by omega)] at g3 ⊢
          split at g3
          · exact absurd g3 (by decide)
          · rename_i g
            rw [if_neg g]
            have := seats_set (A := join (laneAt s.fair (choose s.fair hand)) s.fair.r (seated t 0)) hx
            have h5 := wid_le t.width
            have h6 : seats (join (laneAt s.fair (choose s.fair hand)) s.fair.r (seated t 0)) = seats (laneAt s.fair (choose s.fair hand)) + wid t.width := by simp [seats, join, seated]
            simp only [wants, withFair, fseats]
            omega
      · rename_i g3
        exact absurd h g3
    · rename_i g2
      rw [if_neg g2]
      split at h
      · exact absurd h (by decide)
      · rename_i g3
        rw [if_neg g3]
        split at h
        · rename_i g4
          rw [if_pos g4]
          have := fits_pos g4
          simp only [wants, withRun, runsL_app, sea_seats]
          omega
        · exact absurd h (by decide)

theorem lempty_ids (s : TState) : lempty s = decide (ids s = []) := by
  have h1 : ∀ L : List TLane, 0 ≤ (L.map fun l => (l.wait.length : Int)).sum ∧ ((L.map fun l => (l.wait.length : Int)).sum = 0 ↔ (L.flatMap fun l => widsOf l.wait) = []) := by
    intro L
    induction L with
    | nil => simp
    | cons l L ih =>
      obtain ⟨i1, i2⟩ := ih
      simp only [List.map_cons, List.sum_cons, List.flatMap_cons, List.append_eq_nil_iff]
      rw [← i2]
      have : widsOf l.wait = [] ↔ l.wait.length = 0 := by simp [widsOf]
      rw [this]
      omega
  have h2 := (h1 s.fair.lanes).2
  unfold lempty ids fids waiting
  rw [← Bool.decide_and]
  refine decide_eq_decide.2 ?_
  rw [List.append_eq_nil_iff, h2]
  simp [widsOf, and_comm]

/-- What is known of a level ahead of the i-th step: who is in, 'm' in all. -/
structure known (i : Nat) (s : TState) (m : Nat) : Prop where
  d : (ids s).Nodup
  b : ∀ x, x ∈ ids s → 1000 ≤ x ∧ x < 1000 + (i : Int)
  n : (ids s).length = m
theorem known.perm {i m : Nat} {s s' : TState} (h : known i s m) (p : (ids s').Perm (ids s)) : known i s' m := ⟨p.nodup_iff.2 h.d, fun x hx => h.b x (p.mem_iff.1 hx), by rw [p.length_eq]; exact h.n⟩
theorem known.mono {i m : Nat} {s : TState} (h : known i s m) : known (i + 1) s m := ⟨h.d, fun x hx => by have := h.b x hx; omega, h.n⟩
theorem known.out {i m : Nat} {s s' : TState} {l : List Int} (h : known i s m) (p : (ids s' ++ l).Perm (ids s)) : known i s' (m - l.length) ∧ l.length ≤ m := by
  have hd := p.nodup_iff.2 h.d
  have hl := p.length_eq
  rw [List.length_append, h.n] at hl
  exact ⟨⟨(List.nodup_append.1 hd).1, fun x hx => h.b x (p.mem_iff.1 (List.mem_append_left _ hx)), by omega⟩, by omega⟩
theorem known.in_ {i m : Nat} {s s' : TState} (h : known i s m) (p : (ids s').Perm (ids s ++ [1000 + (i : Int)])) : known (i + 1) s' (m + 1) := by
  refine ⟨p.nodup_iff.2 (List.nodup_append.2 ⟨h.d, by simp, fun a ha b hb e => ?_⟩), fun x hx => ?_, by rw [p.length_eq, List.length_append, h.n]; rfl⟩
  · simp only [List.mem_cons, List.not_mem_nil, or_false] at hb
    have := h.b a ha
    omega
  · rcases List.mem_append.1 (p.mem_iff.1 hx) with hx | hx
    · have := h.b x hx; omega
    · simp only [List.mem_cons, List.not_mem_nil, or_false] at hx
      omega

/-- A step, of a level that is known: who came in, how many came out. -/
theorem stepN_known {i m : Nat} {s : TState} {o : TOp23} (h : known i s m) (ho : o.t.iD = 1000 + (i : Int)) :
    ((d8 o = 0 ∨ d8 o = 1) ∧ ((wants s < wants (stepN s o).1 ∧ known (i + 1) (stepN s o).1 (m + 1)) ∨ (¬ wants s < wants (stepN s o).1 ∧ known (i + 1) (stepN s o).1 m))) ∨
    ((d8 o = 3 ∨ d8 o = 4 ∨ d8 o = 5) ∧ known (i + 1) (stepN s o).1 (m - (stepN s o).2.length) ∧ (stepN s o).2.length ≤ m) ∨
    (¬ (d8 o = 0 ∨ d8 o = 1) ∧ ¬ (d8 o = 3 ∨ d8 o = 4 ∨ d8 o = 5) ∧ known (i + 1) (stepN s o).1 m) := by
  unfold stepN
  by_cases q0 : d8 o = 0 ∨ d8 o = 1
  · rw [if_pos q0]
    refine .inl ⟨q0, ?_⟩
    split
    · rename_i he
      have := larrive_ids he
      rw [ho] at this
      exact .inl ⟨larrive_wants he, h.in_ this⟩
    · exact .inr ⟨by simp only []; omega, h.mono⟩
  · rw [if_neg q0]
    by_cases q2 : d8 o = 2
    · rw [if_pos q2]
      exact .inr (.inr ⟨q0, by omega, (h.perm (ldispN_ids (tot s.fair) s [])).mono⟩)
    · rw [if_neg q2]
      by_cases q3 : d8 o = 3
      · rw [if_pos q3]
        refine .inr (.inl ⟨.inl q3, ?_⟩)
        split
        · rename_i he
          have := h.out (ldone_ids he)
          exact ⟨this.1.mono, this.2⟩
        · exact ⟨h.mono, Nat.zero_le _⟩
      · rw [if_neg q3]
        by_cases q4 : d8 o = 4
        · rw [if_pos q4]
          refine .inr (.inl ⟨.inr (.inl q4), ?_⟩)
          split
          · rename_i he
            have := h.out (ldrop_ids he)
            exact ⟨this.1.mono, this.2⟩
          · exact ⟨h.mono, Nat.zero_le _⟩
        · rw [if_neg q4]
          by_cases q5 : d8 o = 5
          · rw [if_pos q5]
            have := h.out (llate_ids s o.n)
            rw [show (widsOf (llate s o.n).2).length = (llate s o.n).2.length from List.length_map ..] at this
            exact .inr (.inl ⟨.inr (.inr q5), this.1.mono, this.2⟩)
          · rw [if_neg q5]
            refine .inr (.inr ⟨q0, by omega, ?_⟩)
            split
            · exact (h.perm (s' := wl s o.n) (List.Perm.refl _)).mono
            · exact (h.perm (s' := lturn s o.level o.quiet) (by rw [lturn_ids])).mono

end Go.Proofs.Ytdgjelfeclgolaa
