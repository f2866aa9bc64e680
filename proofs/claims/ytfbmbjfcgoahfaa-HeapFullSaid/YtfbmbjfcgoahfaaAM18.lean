/-
  AM, part 18: a row of operations whose order is drawn goes as it goes in the order of the text.
-/
import Derived.Test.YtfbmbjfcgoahfaaAM17
namespace Go.AM
open Go

theorem Before.lt {all : Array Oper} (hc : ∀ (i : Nat) o e, all[i]? = some o → e ∈ o.after → Region.binds .any e = true → e.on < i) {k i : Nat} (h : Before all k i) : k < i := by
  induction h with
  | edge i o e ho he hb => exact hc i o e ho he hb
  | trans i j k _ _ h1 h2 => exact Nat.lt_trans h1 h2

theorem exists_max {p : Nat → Prop} (n : Nat) (h : ∃ k, k < n ∧ p k) : ∃ k, k < n ∧ p k ∧ ∀ k', k' < n → k < k' → ¬ p k' := by
  induction n with
  | zero => obtain ⟨k, hk, _⟩ := h; omega
  | succ n ih =>
    by_cases hn : p n
    · exact ⟨n, by omega, hn, fun k' h1 h2 => by omega⟩
    · obtain ⟨k, hk, hp⟩ := h
      have hkn : k < n := by
        rcases Nat.lt_or_ge k n with h1 | h1
        · exact h1
        · have : k = n := by omega
          subst this
          exact absurd hp hn
      obtain ⟨m, h1, h2, h3⟩ := ih ⟨k, hkn, hp⟩
      refine ⟨m, by omega, h2, fun k' h4 h5 => ?_⟩
      by_cases e : k' = n
      · subst e; exact hn
      · exact h3 k' (by omega) h5

theorem chk_ok {all : Array Oper} (hc : chk all (preds all) = true) :
    (∀ (i : Nat) o e, all[i]? = some o → e ∈ o.after → Region.binds .any e = true → e.on < i) ∧
    (∀ (i : Nat) o (k : Nat) ok d, all[i]? = some o → all[k]? = some ok → ok.dst = some d → k ≠ i → o.dst ≠ some d ∧ (d ∈ o.looksAt all → Before all k i ∨ Before all i k)) := by
  unfold chk at hc
  rw [List.all_eq_true] at hc
  constructor
  · intro i o e ho he hb
    have hi : i < all.size := (Array.getElem?_eq_some_iff.1 ho).1
    have h1 := hc i (List.mem_range.2 hi)
    rw [ho] at h1
    simp only [Bool.and_eq_true] at h1
    have h2 := List.all_eq_true.1 h1.1 e (by simpa using he)
    simpa [hb] using h2
  · intro i o k ok d ho hk hd hne
    have hi : i < all.size := (Array.getElem?_eq_some_iff.1 ho).1
    have hkl : k < all.size := (Array.getElem?_eq_some_iff.1 hk).1
    have h1 := hc i (List.mem_range.2 hi)
    rw [ho] at h1
    simp only [Bool.and_eq_true] at h1
    have h2 := List.all_eq_true.1 h1.2 k (List.mem_range.2 hkl)
    rw [hk] at h2
    simp only [Option.bind_some, hd] at h2
    have hne' : (k == i) = false := by simpa using hne
    rw [hne', Bool.false_or, Bool.and_eq_true] at h2
    refine ⟨by simpa using h2.1, fun hm => ?_⟩
    have h3 := h2.2
    have hm' : (o.looksAt all).contains d = true := by simpa using hm
    rw [hm', Bool.not_true, Bool.false_or, Bool.or_eq_true] at h3
    exact h3.imp (fun h => pre_ok (by simpa [pre] using h)) fun h => pre_ok (by simpa [pre] using h)

section
variable {fl : Bool} {P : Program} {n0 : Nat} {all : Array Oper} {nx : Nat} {tm : Nat → List AVal} {hp : Nat → Heap} {tc : Nat → Bool × List Nat}

/-- What an operation may write. -/
def aff (nx : Nat) (tc : Nat → Bool × List Nat) (i id : Nat) : Prop := id = nx + i ∨ ((tc i).1 = true ∧ id ∈ (tc i).2)

theorem lk_hset' {h : Heap} {id j : Nat} {o : Ob} (hl : (lk h id).isSome = true) : lk (hset h id o) j = if j = id then some o else lk h j := by
  induction h with
  | nil => simp [lk] at hl
  | cons a h ih =>
    obtain ⟨i, q⟩ := a
    simp only [hset]
    by_cases hi : i = id
    · subst hi
      simp only [if_true, lk]
      by_cases hj : i = j
      · subst hj
        simp
      · have : ¬ j = i := fun e => hj e.symm
        simp [hj, this]
    · rw [if_neg hi]
      simp only [lk, if_neg hi] at hl ⊢
      by_cases hj : i = j
      · subst hj
        simp [hi]
      · rw [if_neg hj, if_neg hj, ih hl]

theorem lk_hset_ne {i j : Nat} {o : Ob} (hne : ¬ j = i) : ∀ h : Heap, lk (hset h i o) j = lk h j
  | [] => rfl
  | (k, q) :: h => by
    simp only [hset]
    split
    · rename_i e
      subst e
      simp only [lk]
      rw [if_neg fun e => hne e.symm, if_neg fun e => hne e.symm]
    · simp only [lk]
      rw [lk_hset_ne hne h]

theorem lk_upds_ne {id : Nat} : ∀ (L : Heap) (h : Heap), (∀ e, e ∈ L → e.1 ≠ id) → lk (upds h L) id = lk h id
  | [], h, _ => rfl
  | (i, o) :: L, h, hn => by
    simp only [upds]
    rw [lk_upds_ne L _ fun e he => hn e (List.mem_cons_of_mem _ he), lk_hset_ne (fun e => hn (i, o) (List.mem_cons_self ..) e.symm)]

theorem lk_hset_isSome {i j : Nat} {o : Ob} {h : Heap} (hj : (lk h j).isSome = true) (hi : (lk h i).isSome = true) : (lk (hset h i o) j).isSome = true := by
  rw [lk_hset' hi]
  split
  · rfl
  · exact hj

theorem lk_upds_same {id : Nat} : ∀ (L : Heap) (h h' : Heap), (∀ e, e ∈ L → (lk h e.1).isSome = true) → (∀ e, e ∈ L → (lk h' e.1).isSome = true) → lk h id = lk h' id → lk (upds h L) id = lk (upds h' L) id
  | [], h, h', _, _, e => e
  | (i, o) :: L, h, h', h1, h2, e => by
    simp only [upds]
    have hi := h1 (i, o) (List.mem_cons_self ..)
    have hi' := h2 (i, o) (List.mem_cons_self ..)
    refine lk_upds_same L _ _ (fun q hq => lk_hset_isSome (h1 q (List.mem_cons_of_mem _ hq)) hi) (fun q hq => lk_hset_isSome (h2 q (List.mem_cons_of_mem _ hq)) hi') ?_
    rw [lk_hset' hi, lk_hset' hi', e]

theorem keys_some {L L' : Heap} {h : Heap} (hk : ∀ e, e ∈ L' → e.1 ∈ L.map (·.1)) (hL : ∀ e, e ∈ L → lk h e.1 = some e.2) (e : Nat × Ob) (he : e ∈ L') : (lk h e.1).isSome = true := by
  obtain ⟨q, hq, e1⟩ := List.mem_map.1 (hk e he)
  rw [← e1, hL q hq]
  rfl

theorem PS.keeps {i id : Nat} (h : PS fl P all nx tm hp tc i) (hn : ¬ aff nx tc i id) : lk (hp (i + 1)) id = lk (hp i) id := by
  obtain ⟨o, _, h | ⟨y, _, hs, _, ht⟩ | ⟨y, _, _, ha, _, ht, hs, _, _⟩ | ⟨c, g, args, args', r, L, _, _, _, _, _, _, _, _, he, _⟩ | ⟨c, g, args, args', x, ob, _, _, _, _, _, _, _, he, _⟩ | ⟨y, _, _, _, he, _⟩ | ⟨y, L, L', _, hf, hk, hL, _, _, he, ht⟩⟩ := h
  case inr.inr.inr.inr.inl => rw [he, lk_cons, if_neg fun e => hn (.inl e)]
  case inr.inr.inr.inr.inr.inl => rw [he]
  case inr.inr.inr.inr.inr.inr => rw [he, lk_upds_ne _ _ fun e h1 h2 => hn (.inr (by rw [ht]; exact ⟨rfl, h2 ▸ hk e h1⟩))]
  case inr.inr.inl => rw [(astep_adr (g := hp i) ha ht hs fun _ _ => rfl).1]
  · rw [h.2.2.1]
  · by_cases hw : isWriter o = true
    · obtain ⟨h2', h3, h4⟩ := astep_loc (h2 := hp i) (fun _ _ => rfl) hs
      exact h4.keep1 id (fun e => hn (.inl e)) (fun hm => hn (.inr (by rw [ht]; exact ⟨hw, hm⟩)))
    · exact astep_keeps (by simpa using hw) hs id (fun e => hn (.inl e))
  · rw [he]

theorem PS.slot {i t : Nat} {o : Oper} (h : PS fl P all nx tm hp tc i) (ho : all[i]? = some o) (hn : o.dst ≠ some t) : (tm (i + 1))[t]? = (tm i)[t]? := by
  have put : ∀ x, (putT (tm i) o.dst x)[t]? = (tm i)[t]? := fun x => by
    cases hd : o.dst with
    | none => rfl
    | some d =>
      have : d ≠ t := fun e => hn (by rw [hd, e])
      simp [putT, List.getElem?_set_ne this]
  obtain ⟨o', ho', h⟩ := h
  rw [ho] at ho'
  injection ho' with ho'
  subst ho'
  rcases h with h | ⟨y, _, _, h, _⟩ | ⟨y, _, _, _, _, _, _, h, _⟩ | ⟨c, g, args, args', r, L, _, _, _, _, _, _, _, h, _⟩ | ⟨c, g, args, args', x, ob, _, _, _, _, _, _, h, _⟩ | ⟨y, _, _, h, _⟩ | ⟨y, L, L', _, _, _, _, _, h, _⟩
  · rw [h.2.1, put]
  · rw [h, put]
  · rw [h, put]
  · rw [h, put]
  · rw [h, put]
  · rw [h, put]
  · rw [h, put]

theorem PS.len {i : Nat} (h : PS fl P all nx tm hp tc i) : (tm (i + 1)).length = (tm i).length := by
  have put : ∀ (o : Oper) x, (putT (tm i) o.dst x).length = (tm i).length := fun o x => by
    cases o.dst <;> simp [putT]
  obtain ⟨o, _, h | ⟨y, _, _, h, _⟩ | ⟨y, _, _, _, _, _, _, h, _⟩ | ⟨c, g, args, args', r, L, _, _, _, _, _, _, _, h, _⟩ | ⟨c, g, args, args', x, ob, _, _, _, _, _, _, h, _⟩ | ⟨y, _, _, h, _⟩ | ⟨y, L, L', _, _, _, _, _, h, _⟩⟩ := h
  · rw [h.2.1, put]
  · rw [h, put]
  · rw [h, put]
  · rw [h, put]
  · rw [h, put]
  · rw [h, put]
  · rw [h, put]

theorem PS.shape {i id : Nat} (h : PS fl P all nx tm hp tc i) (hfl : fl = true) (hna : all.all notApp = true) (hid : id < nx) : shpO (lk (hp (i + 1)) id) = shpO (lk (hp i) id) := by
  obtain ⟨o, ho, h | ⟨y, _, hs, _, ht⟩ | ⟨y, _, _, ha, _, ht, hs, _, _⟩ | ⟨c, g, args, args', r, L, _, _, _, _, _, _, _, _, he, _⟩ | ⟨c, g, args, args', x, ob, _, _, _, _, _, _, _, he, _⟩ | ⟨y, _, _, _, he, _⟩ | ⟨y, L, L', _, hf, hk, hL, _, _, he, ht⟩⟩ := h
  · rw [h.2.2.1]
  · have hi : i < all.size := (Array.getElem?_eq_some_iff.1 ho).1
    have e : all[i] = o := (Array.getElem?_eq_some_iff.1 ho).2
    have hn : notApp o = true := by
      have := Array.all_eq_true.1 hna i hi
      rw [e] at this
      exact this
    exact astep_shape hn hs id (by omega)
  · rw [(astep_adr (g := hp i) ha ht hs fun _ _ => rfl).1]
  · rw [he]
  · rw [he, lk_cons, if_neg (by omega)]
  · rw [he]
  · rw [hfl] at hf; cases hf

theorem chainS {x id : Nat} (hps : ∀ j, j < all.size → PS fl P all nx tm hp tc j) (hfl : fl = true) (hna : all.all notApp = true) (hid : id < nx) (hx : x ≤ all.size) : shpO (lk (hp x) id) = shpO (lk (hp 0) id) := by
  induction x with
  | zero => rfl
  | succ x ih => rw [(hps x (by omega)).shape hfl hna hid, ih (by omega)]

theorem chainH {x y id : Nat} (hps : ∀ j, j < all.size → PS fl P all nx tm hp tc j) (hy : y ≤ all.size) (hxy : x ≤ y) (hn : ∀ k, x ≤ k → k < y → ¬ aff nx tc k id) : lk (hp y) id = lk (hp x) id := by
  induction y with
  | zero => have : x = 0 := by omega
            subst this; rfl
  | succ y ih =>
    by_cases e : x = y + 1
    · subst e; rfl
    · rw [(hps y (by omega)).keeps (hn y (by omega) (by omega)), ih (by omega) (by omega) fun k h1 h2 => hn k h1 (by omega)]

theorem chainT {x y t : Nat} (hps : ∀ j, j < all.size → PS fl P all nx tm hp tc j) (hy : y ≤ all.size) (hxy : x ≤ y) (hn : ∀ (k : Nat) o, x ≤ k → k < y → all[k]? = some o → o.dst ≠ some t) : (tm y)[t]? = (tm x)[t]? := by
  induction y with
  | zero => have : x = 0 := by omega
            subst this; rfl
  | succ y ih =>
    by_cases e : x = y + 1
    · subst e; rfl
    · have ho : all[y]? = some all[y] := Array.getElem?_eq_getElem (by omega)
      rw [(hps y (by omega)).slot ho (hn y _ (by omega) (by omega) ho), ih (by omega) (by omega) fun k o h1 h2 => hn k o h1 (by omega)]

theorem lenT {x : Nat} (hps : ∀ j, j < all.size → PS fl P all nx tm hp tc j) (hx : x ≤ all.size) : (tm x).length = (tm 0).length := by
  induction x with
  | zero => rfl
  | succ x ih => rw [(hps x (by omega)).len, ih (by omega)]

/-- The state, when some of the operations have been done. -/
structure SD (all : Array Oper) (nx : Nat) (tm : Nat → List AVal) (hp : Nat → Heap) (tc : Nat → Bool × List Nat) (D : Nat → Prop) (tmD : List AVal) (hD : Heap) : Prop where
  len : tmD.length = (tm 0).length
  t1 : ∀ t, (∀ (k : Nat) o, k < all.size → D k → all[k]? = some o → o.dst ≠ some t) → tmD[t]? = (tm 0)[t]?
  t2 : ∀ (t k : Nat) o, k < all.size → D k → all[k]? = some o → o.dst = some t → tmD[t]? = (tm all.size)[t]?
  h1 : ∀ id, (∀ k, k < all.size → D k → ¬ aff nx tc k id) → lk hD id = lk (hp 0) id
  h2 : ∀ id k, k < all.size → D k → aff nx tc k id → (∀ k', k' < all.size → D k' → k < k' → ¬ aff nx tc k' id) → lk hD id = lk (hp (k + 1)) id

structure Plan (fl : Bool) (P : Program) (all : Array Oper) (nx : Nat) (tm : Nat → List AVal) (hp : Nat → Heap) (tc : Nat → Bool × List Nat) : Prop where
  ps : ∀ j, j < all.size → PS fl P all nx tm hp tc j
  c1 : ∀ (i : Nat) o e, all[i]? = some o → e ∈ o.after → Region.binds .any e = true → e.on < i
  c2 : ∀ (i : Nat) o (k : Nat) ok d, all[i]? = some o → all[k]? = some ok → ok.dst = some d → k ≠ i → o.dst ≠ some d ∧ (d ∈ o.looksAt all → Before all k i ∨ Before all i k)
  ind : ∀ i k, i < all.size → k < all.size → i ≠ k → Before all k i ∨ Before all i k ∨ (((tc i).1 = false ∨ ∀ id, id ∈ (tc i).2 → id ∉ (tc k).2) ∧ nx + i ∉ (tc k).2)

theorem Plan.clash (pl : Plan fl P all nx tm hp tc) {i k id : Nat} (hi : i < all.size) (hk : k < all.size) (hne : i ≠ k) (h1 : aff nx tc i id) (h2 : aff nx tc k id ∨ id ∈ (tc k).2) : Before all i k ∨ Before all k i := by
  rcases pl.ind i k hi hk hne with h | h | ⟨ha, hb⟩
  · exact .inr h
  · exact .inl h
  rcases pl.ind k i hk hi (fun e => hne e.symm) with h | h | ⟨hc, hd⟩
  · exact .inl h
  · exact .inr h
  exfalso
  rcases h1 with h1 | ⟨h1, h1'⟩
  · subst h1
    rcases h2 with (h2 | ⟨_, h2⟩) | h2
    · omega
    · exact hb h2
    · exact hb h2
  · rcases h2 with (h2 | ⟨_, h2⟩) | h2
    · subst h2; exact hd h1'
    · rcases ha with ha | ha
      · rw [h1] at ha; cases ha
      · exact ha id h1' h2
    · rcases ha with ha | ha
      · rw [h1] at ha; cases ha
      · exact ha id h1' h2

variable {D : Nat → Prop} {tmD : List AVal} {hD : Heap}

/-- What an operation that may be done now looks at is as in the order of the text. -/
theorem SD.heapAt (pl : Plan fl P all nx tm hp tc) (sd : SD all nx tm hp tc D tmD hD) (down : ∀ k i, Before all k i → D i → D k) {j : Nat} (hj : j < all.size) (hjD : ¬ D j) (hr : ∀ k, Before all k j → D k) {id : Nat}
    (hid : aff nx tc j id ∨ id ∈ (tc j).2) : lk hD id = lk (hp j) id := by
  have ord : ∀ k, k < all.size → k ≠ j → aff nx tc k id → Before all k j ∨ Before all j k := fun k hk hne ha => pl.clash hk hj hne ha hid
  by_cases hex : ∃ k, k < all.size ∧ (D k ∧ aff nx tc k id)
  · obtain ⟨k, hk, ⟨hDk, hak⟩, hmax⟩ := exists_max all.size hex
    have hkj : k ≠ j := fun e => hjD (e ▸ hDk)
    have hb : Before all k j := by
      rcases ord k hk hkj hak with h | h
      · exact h
      · exact absurd (down j k h hDk) hjD
    have hlt := hb.lt pl.c1
    rw [sd.h2 id k hk hDk hak fun k' h1 h2 h3 h4 => hmax k' h1 h3 ⟨h2, h4⟩]
    refine (chainH pl.ps (by omega) (by omega) fun k' h1 h2 h3 => ?_).symm
    rcases ord k' (by omega) (by omega) h3 with h | h
    · exact hmax k' (by omega) (by omega) ⟨hr k' h, h3⟩
    · have := h.lt pl.c1; omega
  · rw [sd.h1 id fun k h1 h2 h3 => hex ⟨k, h1, h2, h3⟩]
    refine (chainH pl.ps (by omega) (by omega) fun k' h1 h2 h3 => ?_).symm
    rcases ord k' (by omega) (by omega) h3 with h | h
    · exact hex ⟨k', by omega, hr k' h, h3⟩
    · have := h.lt pl.c1; omega

theorem SD.shapeAt (pl : Plan fl P all nx tm hp tc) (sd : SD all nx tm hp tc D tmD hD) (hfl : fl = true) (hna : all.all notApp = true) {j : Nat} (hj : j < all.size) {id : Nat} (hid : id < nx) : shpO (lk hD id) = shpO (lk (hp j) id) := by
  rw [chainS pl.ps hfl hna hid (by omega)]
  by_cases hex : ∃ k, k < all.size ∧ (D k ∧ aff nx tc k id)
  · obtain ⟨k, hk, ⟨hDk, hak⟩, hmax⟩ := exists_max all.size hex
    rw [sd.h2 id k hk hDk hak fun k' h1 h2 h3 h4 => hmax k' h1 h3 ⟨h2, h4⟩, chainS pl.ps hfl hna hid (by omega)]
  · rw [sd.h1 id fun k h1 h2 h3 => hex ⟨k, h1, h2, h3⟩]

theorem SD.slotAt (pl : Plan fl P all nx tm hp tc) (sd : SD all nx tm hp tc D tmD hD) (down : ∀ k i, Before all k i → D i → D k) {j : Nat} (hj : j < all.size) (hjD : ¬ D j) (hr : ∀ k, Before all k j → D k) {o : Oper} (ho : all[j]? = some o) {t : Nat} (ht : t ∈ o.looksAt all) :
    tmD[t]? = (tm j)[t]? := by
  have uniq : ∀ (k k' : Nat) ok ok', all[k]? = some ok → all[k']? = some ok' → ok.dst = some t → ok'.dst = some t → k = k' := fun k k' ok ok' h1 h2 h3 h4 => by
    rcases Nat.decEq k k' with h | h
    · exact absurd h4 (pl.c2 k' ok' k ok t h2 h1 h3 h).1
    · exact h
  by_cases hex : ∃ (k : Nat) (ok : Oper), all[k]? = some ok ∧ ok.dst = some t
  · obtain ⟨k, ok, hk, hd⟩ := hex
    have hks : k < all.size := (Array.getElem?_eq_some_iff.1 hk).1
    by_cases e : k = j
    · subst e
      rw [sd.t1 t fun k' o' h1 h2 h3 h4 => hjD (uniq k' k o' ok h3 hk h4 hd ▸ h2)]
      exact (chainT pl.ps (by omega) (by omega) fun k' o' h1 h2 h3 h4 => by have := uniq k' k o' ok h3 hk h4 hd; omega).symm
    · rcases (pl.c2 j o k ok t ho hk hd e).2 ht with hb | hb
      case inr =>
        have hlt := hb.lt pl.c1
        rw [sd.t1 t fun k' o' h1 h2 h3 h4 => hjD (down j k hb (uniq k' k o' ok h3 hk h4 hd ▸ h2))]
        exact (chainT pl.ps (by omega) (by omega) fun k' o' h1 h2 h3 h4 => by have := uniq k' k o' ok h3 hk h4 hd; omega).symm
      have hlt := hb.lt pl.c1
      rw [sd.t2 t k ok hks (hr k hb) hk hd, chainT (x := k + 1) pl.ps (Nat.le_refl _) (by omega) fun k' o' h1 h2 h3 h4 => by have := uniq k' k o' ok h3 hk h4 hd; omega]
      exact (chainT pl.ps (by omega) (by omega) fun k' o' h1 h2 h3 h4 => by have := uniq k' k o' ok h3 hk h4 hd; omega).symm
  · rw [sd.t1 t fun k' o' h1 h2 h3 h4 => hex ⟨k', o', h3, h4⟩]
    exact (chainT pl.ps (by omega) (by omega) fun k' o' h1 h2 h3 h4 => hex ⟨k', o', h3, h4⟩).symm

/-- One more has been done. -/
theorem SD.next (pl : Plan fl P all nx tm hp tc) (sd : SD all nx tm hp tc D tmD hD) (down : ∀ k i, Before all k i → D i → D k) {j : Nat} (hj : j < all.size) (hjD : ¬ D j) (hr : ∀ k, Before all k j → D k) {o : Oper} (ho : all[j]? = some o)
    {y : AVal} {hD' : Heap} (hty : tm (j + 1) = putT (tm j) o.dst y) (hsame : ∀ id, lk (hp j) id = lk hD id → lk (hp (j + 1)) id = lk hD' id) (hkeep : ∀ id, ¬ aff nx tc j id → lk hD' id = lk hD id) :
    SD all nx tm hp tc (fun k => D k ∨ k = j) (putT tmD o.dst y) hD' := by
  have uniq : ∀ (k k' : Nat) ok ok' t, all[k]? = some ok → all[k']? = some ok' → ok.dst = some t → ok'.dst = some t → k = k' := fun k k' ok ok' t h1 h2 h3 h4 => by
    rcases Nat.decEq k k' with h | h
    · exact absurd h4 (pl.c2 k' ok' k ok t h2 h1 h3 h).1
    · exact h
  refine ⟨?_, fun t ht => ?_, fun t k ok hk hDk hok hd => ?_, fun id hid => ?_, fun id k hk hDk hak hmax => ?_⟩
  · rw [← sd.len]; cases o.dst <;> simp [putT]
  · have h1 := ht j o hj (.inr rfl) ho
    rw [← sd.t1 t fun k o' h2 h3 h4 => ht k o' h2 (.inl h3) h4]
    cases hd : o.dst with
    | none => rfl
    | some d =>
      have : d ≠ t := fun e => h1 (by rw [hd, e])
      simp [putT, List.getElem?_set_ne this]
  · by_cases e : k = j
    · subst e
      rw [ho] at hok
      injection hok with hok
      subst hok
      rw [chainT (x := k + 1) pl.ps (Nat.le_refl _) (by omega) fun k' o' h1 h2 h3 h4 => by have := uniq k' k o' o t h3 ho h4 hd; omega, hty, hd]
      have hl : (tm k).length = (tm 0).length := lenT pl.ps (by omega)
      simp only [putT, List.getElem?_set, sd.len, hl, if_true]
    · have hDk' : D k := hDk.resolve_right e
      rw [← sd.t2 t k ok hk hDk' hok hd]
      cases hd' : o.dst with
      | none => rfl
      | some d =>
        have : d ≠ t := fun e' => e (uniq k j ok o t hok ho hd (by rw [hd', e']))
        simp [putT, List.getElem?_set_ne this]
  · rw [hkeep id (hid j hj (.inr rfl))]
    exact sd.h1 id fun k h1 h2 => hid k h1 (.inl h2)
  · by_cases e : k = j
    · subst e
      exact (hsame id (sd.heapAt pl down hj hjD hr (.inl hak)).symm).symm
    · have hDk' : D k := hDk.resolve_right e
      by_cases haj : aff nx tc j id
      · exfalso
        have hnk : ¬ k < j := fun h => hmax j hj (.inr rfl) h haj
        rcases pl.clash hj hk (fun h => e h.symm) haj (.inl hak) with h | h
        · exact hjD (down j k h hDk')
        · exact hnk (h.lt pl.c1)
      · rw [hkeep id haj]
        exact sd.h2 id k hk hDk' hak fun k' h1 h2 h3 => hmax k' h1 (.inl h2) h3

theorem SD.fin (pl : Plan fl P all nx tm hp tc) (sd : SD all nx tm hp tc D tmD hD) (hall : ∀ k, k < all.size → D k) : tmD = tm all.size ∧ ∀ id, lk hD id = lk (hp all.size) id := by
  constructor
  · apply List.ext_getElem?
    intro t
    by_cases hex : ∃ (k : Nat) (ok : Oper), all[k]? = some ok ∧ ok.dst = some t
    · obtain ⟨k, ok, hk, hd⟩ := hex
      have hks : k < all.size := (Array.getElem?_eq_some_iff.1 hk).1
      exact sd.t2 t k ok hks (hall k hks) hk hd
    · rw [sd.t1 t fun k' o' h1 h2 h3 h4 => hex ⟨k', o', h3, h4⟩]
      exact (chainT pl.ps (Nat.le_refl _) (by omega) fun k' o' h1 h2 h3 h4 => hex ⟨k', o', h3, h4⟩).symm
  · intro id
    by_cases hex : ∃ k, k < all.size ∧ aff nx tc k id
    · obtain ⟨k, hk, hak, hmax⟩ := exists_max all.size hex
      rw [sd.h2 id k hk (hall k hk) hak fun k' h1 _ h3 => hmax k' h1 h3]
      exact (chainH pl.ps (Nat.le_refl _) (by omega) fun k' h1 h2 => hmax k' (by omega) (by omega)).symm
    · rw [sd.h1 id fun k h1 _ h3 => hex ⟨k, h1, h3⟩]
      exact (chainH pl.ps (Nat.le_refl _) (by omega) fun k' h1 h2 h3 => hex ⟨k', by omega, h3⟩).symm

end
end Go.AM
