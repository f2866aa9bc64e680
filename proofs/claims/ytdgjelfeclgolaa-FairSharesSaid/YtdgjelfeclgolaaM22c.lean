/-
  Lanes that take turns: turn by turn; virtual time, and how far each lane has come; plain laws.
-/
import Derived.Test.YtdgjelfeclgolaaM22b
namespace Go.Proofs.Ytdgjelfeclgolaa
open Go Go.AM
set_option linter.unusedVariables false
set_option linter.unusedSimpArgs false

def clampW (n : Int) : Int := min (max n 1) 16
def turnT (u : TTurn) (i : Nat) : TTicket := ⟨i, clampW u.width, 0, 0, 0⟩

/-- One turn: what there is then, from which lane who of which width was taken. -/
def stepR (f : TFair) (u : TTurn) (i : Nat) : TFair × Int × Int :=
  if u.take = true then (if next f < 0 then (f, -1, 0) else ((ftake f).1, next f, (ftake f).2.1.width))
  else if (fjoin f [u.lane] (turnT u i)).2.2 = 0 then ((fjoin f [u.lane] (turnT u i)).1, -1, 0) else (f, -1, 0)

def runS (f0 : TFair) (us : List TTurn) : Nat → TFair × List TFair × List Int × List Int
  | 0 => (f0, [], [], [])
  | n + 1 => match us[n]? with
    | none => runS f0 us n
    | some u => ((stepR (runS f0 us n).1 u n).1, (runS f0 us n).2.1 ++ [(stepR (runS f0 us n).1 u n).1], (runS f0 us n).2.2.1 ++ [(stepR (runS f0 us n).1 u n).2.1], (runS f0 us n).2.2.2 ++ [(stepR (runS f0 us n).1 u n).2.2])

theorem runS_succ {f0 : TFair} {us : List TTurn} {n : Nat} {u : TTurn} (h : us[n]? = some u) : runS f0 us (n + 1) = ((stepR (runS f0 us n).1 u n).1, (runS f0 us n).2.1 ++ [(stepR (runS f0 us n).1 u n).1], (runS f0 us n).2.2.1 ++ [(stepR (runS f0 us n).1 u n).2.1], (runS f0 us n).2.2.2 ++ [(stepR (runS f0 us n).1 u n).2.2]) := by
  rw [runS, h]

theorem runS_len (f0 : TFair) (us : List TTurn) : ∀ n, n ≤ us.length → (runS f0 us n).2.1.length = n ∧ (runS f0 us n).2.2.1.length = n ∧ (runS f0 us n).2.2.2.length = n
  | 0, _ => ⟨rfl, rfl, rfl⟩
  | n + 1, h => by
    obtain ⟨u, hu⟩ := some_of_lt (l := us) (i := n) (by omega)
    obtain ⟨h1, h2, h3⟩ := runS_len f0 us n (by omega)
    rw [runS_succ hu]
    simp [h1, h2, h3]

theorem runS_get (f0 : TFair) (us : List TTurn) : ∀ n, n ≤ us.length → ∀ i u, i < n → us[i]? = some u → (runS f0 us n).2.1[i]? = some (runS f0 us (i + 1)).1 ∧ (runS f0 us n).2.2.1[i]? = some (stepR (runS f0 us i).1 u i).2.1 ∧ (runS f0 us n).2.2.2[i]? = some (stepR (runS f0 us i).1 u i).2.2
  | 0, _, i, u, hi, _ => by omega
  | n + 1, h, i, u, hi, hu => by
    obtain ⟨v, hv⟩ := some_of_lt (l := us) (i := n) (by omega)
    obtain ⟨l1, l2, l3⟩ := runS_len f0 us n (by omega)
    rcases Nat.lt_or_ge i n with h1 | h1
    · obtain ⟨g1, g2, g3⟩ := runS_get f0 us n (by omega) i u h1 hu
      rw [runS_succ hv]
      refine ⟨?_, ?_, ?_⟩
      · simp only [List.getElem?_append_left (show i < (runS f0 us n).2.1.length by omega), g1]
      · simp only [List.getElem?_append_left (show i < (runS f0 us n).2.2.1.length by omega), g2]
      · simp only [List.getElem?_append_left (show i < (runS f0 us n).2.2.2.length by omega), g3]
    · obtain rfl : i = n := by omega
      rw [hu] at hv
      injection hv with hv
      subst hv
      rw [runS_succ hu]
      refine ⟨?_, ?_, ?_⟩
      · simp [l1]
      · simp [l2]
      · simp [l3]

/-- What holds from New on. -/
structure Inv (o g m : Int) (i : Nat) (f : TFair) : Prop where
  hg : f.guess = g
  ho : f.open_ = o
  hn : f.length = 64
  hl : (f.lanes.length : Int) = o
  r0 : 0 ≤ f.r
  r1 : f.r ≤ 16000 * i
  st : ∀ (k : Nat) l, f.lanes[k]? = some l → 0 ≤ l.start ∧ l.start ≤ f.r ∧ l.wait.length ≤ 64 ∧ ∀ t w, l.wait = t :: w → f.r ≤ l.start + t.width * g
  wd : ∀ (k : Nat) l t, f.lanes[k]? = some l → t ∈ l.wait → 1 ≤ t.width ∧ t.width ≤ m

theorem inv_new {o g m : Int} (h : mayB o g 64 = true) : Inv o g m 0 (fnew o g 64).1 ∧ (fnew o g 64).2 = 0 := by
  have ho := (mayB_iff o g 64).1 h
  rw [fnew_eq, if_pos h]
  refine ⟨⟨rfl, rfl, rfl, by simp; omega, Int.le_refl _, by simp, fun k l hk => ?_, fun k l t hk ht => ?_⟩, rfl⟩
  · obtain ⟨_, rfl⟩ := List.mem_replicate.1 (List.mem_of_getElem? hk)
    exact ⟨Int.le_refl _, Int.le_refl _, by simp [zeroL], fun t w e => by simp [zeroL] at e⟩
  · obtain ⟨_, rfl⟩ := List.mem_replicate.1 (List.mem_of_getElem? hk)
    simp [zeroL] at ht

theorem trim_id {f : TFair} (h : (f.lanes.length : Int) ≤ max f.open_ 0) : ftrim f = f := by
  have e : trimN f.open_ f.lanes f.lanes.length = f.lanes.length := by
    cases hn : f.lanes.length with
    | zero => rfl
    | succ n => rw [trimN, if_neg (by omega)]
  rw [ftrim, e, List.take_length]

theorem work_eq {t : TTicket} {g m : Int} (h : 1 ≤ t.width ∧ t.width ≤ m) (hm : m ≤ 16) (hg : 1 ≤ g ∧ g ≤ 1000) : work t g = t.width * g := by
  rw [work, show wid t.width = t.width by unfold wid; omega, show gue g = g by unfold gue; omega]

theorem add_eq {s w : Int} (h1 : 0 ≤ s) (h2 : 0 ≤ w) (h : s + w ≤ 4611686018427387904) : add s w = s + w := by unfold add cap; omega

theorem set_get {L : List TLane} {k j : Nat} {a l : TLane} (h : (L.set k a)[j]? = some l) : (j = k ∧ l = a) ∨ (j ≠ k ∧ L[j]? = some l) := by
  rw [List.getElem?_set] at h
  split at h
  · rename_i e
    split at h
    · injection h with h
      exact .inl ⟨e.symm, h.symm⟩
    · cases h
  · rename_i e
    exact .inr ⟨fun e2 => e e2.symm, h⟩

section
variable {o g m : Int} {i : Nat} {f : TFair} (inv : Inv o g m i f) (hg : 1 ≤ g ∧ g ≤ 1000) (hm : m ≤ 16) (hi : i ≤ 300)
include inv hg hm hi

omit hi in
theorem inv_work {k : Nat} {l : TLane} {t : TTicket} {w : List TTicket} (hk : f.lanes[k]? = some l) (hw : l.wait = t :: w) : work t f.guess = t.width * g ∧ 1 ≤ t.width * g ∧ t.width * g ≤ 16000 := by
  have h1 := inv.wd k l t hk (by rw [hw]; exact List.mem_cons_self)
  rw [inv.hg, work_eq h1 hm hg]
  exact ⟨rfl, mul_bounds ⟨h1.1, by omega⟩ hg⟩

theorem inv_fin {k : Nat} {l : TLane} {t : TTicket} {w : List TTicket} (hk : f.lanes[k]? = some l) (hw : l.wait = t :: w) : fin l f.guess = (l.start + t.width * g, true) := by
  obtain ⟨e1, e2, e3⟩ := inv_work inv hg hm hk hw
  have h2 := inv.st k l hk
  have h3 := inv.r1
  rw [fin, hw]
  dsimp only
  rw [e1, add_eq h2.1 (by omega) (by omega)]

/-- What is taken. -/
theorem inv_take (h0 : ¬ next f < 0) : ∃ (k : Nat) (l : TLane) (t : TTicket) (w : List TTicket), next f = k ∧ f.lanes[k]? = some l ∧ l.wait = t :: w ∧ (ftake f).2.1 = t ∧ f.r ≤ l.start + t.width * g ∧ l.start + t.width * g ≤ f.r + 16000 ∧
    (∀ (j : Nat) l', f.lanes[j]? = some l' → ∀ t' w', l'.wait = t' :: w' → l.start + t.width * g ≤ l'.start + t'.width * g) ∧
    (ftake f).1 = ⟨l.start + t.width * g, f.guess, f.length, f.open_, f.lanes.set k ⟨l.start + t.width * g, w⟩⟩ := by
  rcases take_spec f with ⟨e1, _⟩ | ⟨k, l, t, w, e1, e2, e3, e4, e5, e6, e7⟩
  · omega
  · rcases next_cases f with ⟨h1, _⟩ | ⟨k', l2, t2, w2, h1, h2, h3, h4, h5⟩
    · omega
    · obtain rfl : k' = k := by omega
      rw [e2] at h2
      injection h2 with h2
      subst h2
      have q1 := inv_fin inv hg hm hi e2 e3
      obtain ⟨q2, q3, q4⟩ := inv_work inv hg hm e2 e3
      have q5 := inv.st k' l e2
      have q6 := q5.2.2.2 t w e3
      have q7 : add l.start (work t f.guess) = l.start + t.width * g := by rw [q2, add_eq q5.1 (by omega) (by have := inv.r1; omega)]
      refine ⟨k', l, t, w, e1, e2, e3, by rw [e4], q6, by omega, fun j l' hj t' w' hw => ?_, ?_⟩
      · have := h5 j l' hj (by rw [hw]; simp)
        rw [q1, inv_fin inv hg hm hi hj hw] at this
        exact this
      · rw [e7, q7, show max f.r (l.start + t.width * g) = l.start + t.width * g by omega]
        refine trim_id ?_
        simp only [List.length_set]
        have h6 := inv.hl
        rw [inv.ho]
        omega

theorem inv_step (u : TTurn) (hu : clampW u.width ≤ m) : Inv o g m (i + 1) (stepR f u i).1 ∧ f.r ≤ (stepR f u i).1.r := by
  have same : Inv o g m (i + 1) f := ⟨inv.hg, inv.ho, inv.hn, inv.hl, inv.r0, by have := inv.r1; omega, inv.st, inv.wd⟩
  rw [stepR]
  split
  · split
    · exact ⟨same, Int.le_refl _⟩
    · rename_i h0
      obtain ⟨k, l, t, w, e1, e2, e3, e4, e5, e6, e7, e8⟩ := inv_take inv hg hm hi h0
      have q5 := inv.st k l e2
      have q3 := (inv_work inv hg hm e2 e3).2
      rw [e8]
      refine ⟨⟨inv.hg, inv.ho, inv.hn, by simpa using inv.hl, by simp only []; omega, by have := inv.r1; simp only []; omega, fun j l' hj => ?_, fun j l' t' hj ht => ?_⟩, e5⟩
      · rcases set_get hj with ⟨rfl, rfl⟩ | ⟨hne, hj⟩
        · refine ⟨by simp only []; omega, Int.le_refl _, by have := q5.2.2.1; rw [e3] at this; simp at this ⊢; omega, fun t' w' hw => ?_⟩
          have h1 := inv.wd j l t' e2 (by rw [e3]; simp only [] at hw; rw [hw]; simp)
          have := mul_bounds ⟨h1.1, Int.le_trans h1.2 hm⟩ hg
          simp only []
          omega
        · have h1 := inv.st j l' hj
          exact ⟨h1.1, by simp only []; omega, h1.2.2.1, fun t' w' hw => e7 j l' hj t' w' hw⟩
      · rcases set_get hj with ⟨rfl, rfl⟩ | ⟨hne, hj⟩
        · exact inv.wd j l t' e2 (by rw [e3]; exact List.mem_cons_of_mem _ ht)
        · exact inv.wd j l' t' hj ht
  · split
    · rename_i h0
      rcases choose_cases f [u.lane] with h1 | ⟨h1, h2, h3⟩
      · rw [fjoin, if_pos (by omega)] at h0
        cases h0
      · rw [fjoin, if_neg (by omega)] at h0 ⊢
        split at h0
        · cases h0
        · rename_i hfull
          rw [if_neg hfull]
          have hx := laneAt_get h1 h3
          generalize choose f [u.lane] = c at *
          generalize laneAt f c = l at *
          have q5 := inv.st _ l hx
          have hw : 1 ≤ (turnT u i).width ∧ (turnT u i).width ≤ m := ⟨by simp only [turnT, clampW]; omega, hu⟩
          have hb := mul_bounds ⟨hw.1, Int.le_trans hw.2 hm⟩ hg
          rw [inv.hn] at hfull
          refine ⟨⟨inv.hg, inv.ho, inv.hn, by simpa using inv.hl, inv.r0, by have := inv.r1; simp only []; omega, fun j l' hj => ?_, fun j l' t' hj ht => ?_⟩, Int.le_refl _⟩
          · rcases set_get hj with ⟨rfl, rfl⟩ | ⟨hne, hj⟩
            · by_cases he : l.wait.length = 0
              · have he2 : l.wait = [] := List.length_eq_zero_iff.1 he
                rw [show join l f.r (turnT u i) = ⟨max l.start f.r, [turnT u i]⟩ by rw [join, if_pos he, he2]; rfl]
                dsimp only
                refine ⟨by omega, by omega, by simp, fun t' w' e => ?_⟩
                injection e with e _
                subst e
                omega
              · obtain ⟨t0, w0, e0⟩ := List.exists_cons_of_ne_nil (l := l.wait) (fun e => he (by rw [e]; rfl))
                rw [show join l f.r (turnT u i) = ⟨l.start, l.wait ++ [turnT u i]⟩ by rw [join, if_neg he]]
                dsimp only
                refine ⟨q5.1, q5.2.1, by simp; omega, fun t' w' e => ?_⟩
                rw [e0, List.cons_append] at e
                injection e with e _
                subst e
                exact q5.2.2.2 t0 w0 e0
            · exact inv.st j l' hj
          · rcases set_get hj with ⟨rfl, rfl⟩ | ⟨hne, hj⟩
            · rcases List.mem_append.1 ht with ht | ht
              · exact inv.wd _ l t' hx ht
              · simp only [List.mem_cons, List.not_mem_nil, or_false] at ht
                subst ht
                exact hw
            · exact inv.wd j l' t' hj ht
    · exact ⟨same, Int.le_refl _⟩

/-- How far a lane comes in one turn, if somebody waits in it ahead of it. -/
theorem start_step (u : TTurn) (a : Nat) (la lb : TLane) (ha : f.lanes[a]? = some la) (hne : la.wait ≠ []) (hb : (stepR f u i).1.lanes[a]? = some lb) :
    lb.start = la.start + if (stepR f u i).2.1 = a then (stepR f u i).2.2 * g else 0 := by
  have no : ¬ (-1 : Int) = a := by omega
  revert hb
  rw [stepR]
  split
  · split
    · intro hb
      show lb.start = la.start + (if (-1 : Int) = (a : Int) then (0 : Int) * g else 0)
      rw [if_neg no]
      rw [ha] at hb
      injection hb with hb
      rw [hb]
      omega
    · rename_i h0
      obtain ⟨k, l, t, w, e1, e2, e3, e4, e5, e6, e7, e8⟩ := inv_take inv hg hm hi h0
      rw [e8, e1, e4]
      intro hb
      rcases set_get hb with ⟨rfl, rfl⟩ | ⟨hne, hj⟩
      · rw [ha] at e2
        injection e2 with e2
        subst e2
        rw [if_pos rfl]
      · rw [ha] at hj
        injection hj with hj
        rw [if_neg (by simp only []; omega), hj]
        omega
  · split
    · rename_i h0
      rcases choose_cases f [u.lane] with h1 | ⟨h1, h2, h3⟩
      · rw [fjoin, if_pos (by omega)] at h0
        cases h0
      · rw [fjoin, if_neg (by omega)] at h0 ⊢
        split at h0
        · cases h0
        · rename_i hfull
          rw [if_neg hfull]
          have hx := laneAt_get h1 h3
          generalize choose f [u.lane] = c at *
          generalize laneAt f c = l at *
          intro hb
          show lb.start = la.start + (if (-1 : Int) = (a : Int) then (0 : Int) * g else 0)
          rw [if_neg no]
          rcases set_get hb with ⟨rfl, rfl⟩ | ⟨hne, hj⟩
          · rw [ha] at hx
            injection hx with hx
            subst hx
            rw [join, if_neg (fun e => hne (List.length_eq_zero_iff.1 e))]
            simp only []
            omega
          · rw [ha] at hj
            injection hj with hj
            rw [hj]
            omega
    · intro hb
      show lb.start = la.start + (if (-1 : Int) = (a : Int) then (0 : Int) * g else 0)
      rw [if_neg no]
      rw [ha] at hb
      injection hb with hb
      rw [hb]
      omega
end

/-- The widest of the turns. -/
def mostS (us : List TTurn) : Nat → Int
  | 0 => 0
  | n + 1 => match us[n]? with
    | none => mostS us n
    | some u => max (mostS us n) (clampW u.width)

theorem mostS_le (us : List TTurn) : ∀ n, 0 ≤ mostS us n ∧ mostS us n ≤ 16 ∧ ∀ i u, i < n → us[i]? = some u → clampW u.width ≤ mostS us n
  | 0 => ⟨Int.le_refl _, by simp [mostS], fun i u hi => by omega⟩
  | n + 1 => by
    obtain ⟨h1, h2, h3⟩ := mostS_le us n
    rw [mostS]
    cases hu : us[n]? with
    | none =>
      refine ⟨h1, h2, fun i u hi hx => ?_⟩
      rcases Nat.lt_or_ge i n with h4 | h4
      · exact h3 i u h4 hx
      · obtain rfl : i = n := by omega
        rw [hu] at hx
        cases hx
    | some v =>
      refine ⟨by simp only []; omega, by simp only [clampW]; omega, fun i u hi hx => ?_⟩
      rcases Nat.lt_or_ge i n with h4 | h4
      · have := h3 i u h4 hx
        simp only []
        omega
      · obtain rfl : i = n := by omega
        rw [hu] at hx
        injection hx with hx
        subst hx
        simp only []
        omega

theorem inv_run {o g m : Int} {us : List TTurn} {f0 : TFair} (h0 : Inv o g m 0 f0) (hg : 1 ≤ g ∧ g ≤ 1000) (hm : m ≤ 16) : ∀ n, n ≤ us.length → n ≤ 300 → (∀ i u, i < n → us[i]? = some u → clampW u.width ≤ m) → Inv o g m n (runS f0 us n).1
  | 0, _, _, _ => h0
  | n + 1, h1, h2, h3 => by
    obtain ⟨u, hu⟩ := some_of_lt (l := us) (i := n) (by omega)
    rw [runS_succ hu]
    exact (inv_step (inv_run h0 hg hm n (by omega) (by omega) fun i v hi hv => h3 i v (by omega) hv) hg hm (by omega) u (h3 n u (by omega) hu)).1

theorem Inv.okF {o g m : Int} {i : Nat} {f : TFair} (h : Inv o g m i f) (ho : o ≤ 64) : okF 64 64 f := by
  refine ⟨by have := h.hl; omega, fun l hl => ?_⟩
  obtain ⟨k, hk⟩ := List.getElem?_of_mem hl
  have := h.st k l hk
  exact ⟨this.1, this.2.2.1⟩

end Go.Proofs.Ytdgjelfeclgolaa
