/-
  The reference's clock: a list in the order in which it was set; against the list in order; plain Lean.
-/
import Derived.Test.YtfbmbjfcgoahfaaM5
namespace Go.Proofs.Ytfbmbjfcgoahfaa
open Go Go.AM
set_option linter.unusedVariables false
set_option linter.unusedSimpArgs false

def ltD (d e : TDue) : Prop := d.at_ < e.at_ ∨ (d.at_ = e.at_ ∧ d.iD < e.iD)
instance (d e : TDue) : Decidable (ltD d e) := by unfold ltD; exact inferInstance
def dat (L : List TDue) (i : Nat) : TDue := L.getD i ⟨0, 0⟩
theorem dat_get {L : List TDue} {i : Nat} (h : i < L.length) : L[i]? = some (dat L i) := by
  unfold dat
  rw [List.getD_eq_getElem?_getD, List.getElem?_eq_getElem h]
  rfl

/-- The place of the first one among some. -/
def fstI (L : List TDue) : Nat → Int
  | 0 => -1
  | i + 1 => if fstI L i < 0 ∨ ltD (dat L i) (dat L (fstI L i).toNat) then (i : Int) else fstI L i

theorem fstI_law (L : List TDue) : ∀ i, i ≤ L.length → (i = 0 ∧ fstI L i = -1) ∨ (∃ b : Nat, fstI L i = b ∧ b < i ∧ ∀ k, k < i → ¬ ltD (dat L k) (dat L b))
  | 0, _ => .inl ⟨rfl, rfl⟩
  | i + 1, h => by
    right
    rcases fstI_law L i (by omega) with ⟨h1, h2⟩ | ⟨b, h1, h2, h3⟩
    · refine ⟨i, ?_, by omega, fun k hk => ?_⟩
      · rw [fstI, if_pos (.inl (by omega))]
      · have : k = i := by omega
        subst this
        unfold ltD; omega
    · rw [fstI, h1]
      by_cases h4 : ltD (dat L i) (dat L b)
      · rw [if_pos (.inr (by simpa using h4))]
        refine ⟨i, rfl, by omega, fun k hk => ?_⟩
        rcases Nat.lt_or_ge k i with h5 | h5
        · have := h3 k h5
          unfold ltD at *; omega
        · have : k = i := by omega
          subst this
          unfold ltD; omega
      · rw [if_neg (by simp only [Int.toNat_natCast, not_or]; exact ⟨by omega, h4⟩)]
        refine ⟨b, rfl, by omega, fun k hk => ?_⟩
        rcases Nat.lt_or_ge k i with h5 | h5
        · exact h3 k h5
        · have : k = i := by omega
          subst this
          exact h4

/-- The two lists hold the same. -/
structure RV (L : List TDue) (l : List TItem) : Prop where
  mem : ∀ y, y ∈ l ↔ ∃ d, d ∈ L ∧ y = itemOf d
  len : L.length = l.length
  ids : (L.map (·.iD)).Nodup
  srt : Sorted l

theorem RV.nil : RV [] [] := ⟨fun y => by simp, rfl, List.nodup_nil, List.Pairwise.nil⟩

def hasR (L : List TDue) (id : Int) : Bool := L.any fun d => decide (d.iD = id)
theorem RV.has {L : List TDue} {l : List TItem} (r : RV L l) (id : Int) : hasR L id = hasL l id := by
  unfold hasR hasL
  rw [Bool.eq_iff_iff]
  simp only [List.any_eq_true, decide_eq_true_eq]
  constructor
  · rintro ⟨d, hd, e⟩; exact ⟨itemOf d, (r.mem _).2 ⟨d, hd, rfl⟩, e⟩
  · rintro ⟨y, hy, e⟩
    obtain ⟨d, hd, rfl⟩ := (r.mem y).1 hy
    exact ⟨d, hd, e⟩

theorem hasR_t {L : List TDue} {id : Int} : hasR L id = true ↔ ∃ d, d ∈ L ∧ d.iD = id := by simp [hasR]
theorem hasR_f {L : List TDue} {id : Int} : hasR L id = false ↔ ∀ d, d ∈ L → d.iD ≠ id := by simp [hasR]

theorem RV.set {L : List TDue} {l : List TItem} (r : RV L l) {id at_ : Int} (h : hasR L id = false) : RV (L ++ [⟨id, at_⟩]) (insL l ⟨at_, id⟩) := by
  have hl : hasL l id = false := by rw [← r.has]; exact h
  refine ⟨fun y => ?_, by rw [len_insL, List.length_append, r.len]; rfl, ?_, sorted_ins r.srt (hasL_f.1 hl)⟩
  · rw [mem_insL, r.mem]
    constructor
    · rintro (rfl | ⟨d, hd, rfl⟩)
      · exact ⟨⟨id, at_⟩, by simp, rfl⟩
      · exact ⟨d, by simp [hd], rfl⟩
    · rintro ⟨d, hd, rfl⟩
      rcases List.mem_append.1 hd with hd | hd
      · exact .inr ⟨d, hd, rfl⟩
      · simp at hd; subst hd; exact .inl rfl
  · rw [List.map_append, List.nodup_append]
    refine ⟨r.ids, by simp, fun a ha b hb => ?_⟩
    simp at hb
    subst hb
    obtain ⟨d, hd, rfl⟩ := List.mem_map.1 ha
    exact hasR_f.1 h d hd

theorem mem_erase_ids {L : List TDue} (hn : (L.map (·.iD)).Nodup) {b : Nat} {x : TDue} (hx : L[b]? = some x) (d : TDue) : d ∈ L.eraseIdx b ↔ (d ∈ L ∧ d.iD ≠ x.iD) := by
  induction L generalizing b with
  | nil => cases hx
  | cons a L ih =>
    rw [List.map_cons, List.nodup_cons] at hn
    cases b with
    | zero =>
      simp at hx
      subst hx
      simp only [List.eraseIdx_cons_zero, List.mem_cons]
      constructor
      · intro hd
        exact ⟨.inr hd, fun e => hn.1 (List.mem_map.2 ⟨d, hd, e⟩)⟩
      · rintro ⟨rfl | hd, h2⟩
        · exact absurd rfl h2
        · exact hd
    | succ b =>
      simp only [List.getElem?_cons_succ] at hx
      simp only [List.eraseIdx_cons_succ, List.mem_cons]
      rw [ih hn.2 hx]
      constructor
      · rintro (rfl | ⟨h1, h2⟩)
        · exact ⟨.inl rfl, fun e => hn.1 (List.mem_map.2 ⟨x, List.mem_of_getElem? hx, e.symm⟩)⟩
        · exact ⟨.inr h1, h2⟩
      · rintro ⟨rfl | h1, h2⟩
        · exact .inl rfl
        · exact .inr ⟨h1, h2⟩

theorem ids_inj : ∀ {L : List TDue}, (L.map (·.iD)).Nodup → ∀ {d d' : TDue}, d ∈ L → d' ∈ L → d.iD = d'.iD → d = d'
  | [], _, _, _, h, _, _ => (nomatch h)
  | a :: L, hn, d, d', h, h', e => by
    rw [List.map_cons, List.nodup_cons] at hn
    rcases List.mem_cons.1 h with rfl | h1
    · rcases List.mem_cons.1 h' with rfl | h2
      · rfl
      · exact absurd (List.mem_map.2 ⟨d', h2, e.symm⟩ : d.iD ∈ L.map (·.iD)) hn.1
    · rcases List.mem_cons.1 h' with rfl | h2
      · exact absurd (List.mem_map.2 ⟨d, h1, e⟩ : d'.iD ∈ L.map (·.iD)) hn.1
      · exact ids_inj hn.2 h1 h2 e

theorem RV.erase {L : List TDue} {l : List TItem} (r : RV L l) {b : Nat} {x : TDue} (hx : L[b]? = some x) : RV (L.eraseIdx b) (cutL l x.iD) := by
  have hb : b < L.length := (List.getElem?_eq_some_iff.1 hx).1
  have hml : itemOf x ∈ l := (r.mem _).2 ⟨x, List.mem_of_getElem? hx, rfl⟩
  have hidl : (l.map (·.iD)).Nodup := by
    have key : ∀ l : List TItem, Sorted l → (∀ x y, x ∈ l → y ∈ l → x.iD = y.iD → x = y) → (l.map (·.iD)).Nodup := by
      intro l
      induction l with
      | nil => intros; exact List.nodup_nil
      | cons a l ih =>
        intro hs hi
        unfold Sorted at hs
        rw [List.pairwise_cons] at hs
        rw [List.map_cons, List.nodup_cons]
        refine ⟨fun hm => ?_, ih hs.2 fun x y hx hy => hi x y (List.mem_cons_of_mem _ hx) (List.mem_cons_of_mem _ hy)⟩
        obtain ⟨b, hb, e⟩ := List.mem_map.1 hm
        have := hi a b (List.mem_cons_self ..) (List.mem_cons_of_mem _ hb) e.symm
        subst this
        have := hs.1 a hb
        rw [goes_t] at this
        omega
    refine key l r.srt fun y z hy hz e => ?_
    obtain ⟨d, hd, rfl⟩ := (r.mem y).1 hy
    obtain ⟨d', hd', rfl⟩ := (r.mem z).1 hz
    have e : d.iD = d'.iD := e
    rw [ids_inj r.ids hd hd' e]
  refine ⟨fun y => ?_, ?_, ?_, sorted_cut r.srt _⟩
  · rw [mem_cutL, r.mem]
    constructor
    · rintro ⟨⟨d, hd, rfl⟩, h2⟩
      exact ⟨d, (mem_erase_ids r.ids hx d).2 ⟨hd, h2⟩, rfl⟩
    · rintro ⟨d, hd, rfl⟩
      obtain ⟨h1, h2⟩ := (mem_erase_ids r.ids hx d).1 hd
      exact ⟨⟨d, h1, rfl⟩, h2⟩
  · have := len_cutL (id := x.iD) hidl ⟨itemOf x, hml, rfl⟩
    rw [List.length_eraseIdx, if_pos hb]
    have := r.len
    omega
  · exact List.Nodup.sublist ((List.eraseIdx_sublist L b).map _) r.ids

/-- The first one is the first in order. -/
theorem RV.first {L : List TDue} {x : TItem} {l : List TItem} (r : RV L (x :: l)) : ∃ b : Nat, fstI L L.length = b ∧ b < L.length ∧ L[b]? = some (dueOf x) := by
  have hl := r.len
  simp only [List.length_cons] at hl
  rcases fstI_law L L.length (Nat.le_refl _) with ⟨h1, _⟩ | ⟨b, h1, h2, h3⟩
  · omega
  · refine ⟨b, h1, h2, ?_⟩
    rw [dat_get h2]
    have hm : itemOf (dat L b) ∈ x :: l := (r.mem _).2 ⟨dat L b, List.mem_of_getElem? (dat_get h2), rfl⟩
    obtain ⟨d, hd, hxd⟩ := (r.mem x).1 (List.mem_cons_self ..)
    obtain ⟨k, hk⟩ := List.getElem?_of_mem hd
    have hk2 : k < L.length := (List.getElem?_eq_some_iff.1 hk).1
    have hnl := h3 k hk2
    have hdk : dat L k = d := by
      have := dat_get hk2
      rw [hk] at this
      exact (Option.some.inj this).symm
    rw [hdk] at hnl
    rcases List.mem_cons.1 hm with e | hm
    · rw [← e]; rfl
    · have hs := r.srt
      unfold Sorted at hs
      rw [List.pairwise_cons] at hs
      have := hs.1 _ hm
      rw [goes_t, hxd] at this
      exact absurd this hnl

theorem RV.none {L : List TDue} (r : RV L []) : L = [] := List.length_eq_zero_iff.1 r.len

def advR : Nat → List TDue → Int → List TDue × List TDue
  | 0, L, _ => (L, [])
  | f + 1, L, to => if 0 ≤ fstI L L.length ∧ (dat L (fstI L L.length).toNat).at_ ≤ to then
      ((advR f (L.eraseIdx (fstI L L.length).toNat) to).1, dat L (fstI L L.length).toNat :: (advR f (L.eraseIdx (fstI L L.length).toNat) to).2) else (L, [])

theorem RV.adv (to : Int) : ∀ (l : List TItem) (L : List TDue) (f : Nat), RV L l → L.length ≤ f → (l.map (·.iD)).Nodup → RV (advR f L to).1 (l.dropWhile (dueB to)) ∧ (advR f L to).2 = (l.takeWhile (dueB to)).map dueOf
  | [], L, f, r, hf, _ => by
    obtain rfl := r.none
    cases f with
    | zero => exact ⟨r, rfl⟩
    | succ f => rw [advR, if_neg (by simp [fstI])]; exact ⟨r, rfl⟩
  | x :: l, L, 0, r, hf, _ => by
    have := r.len
    simp only [List.length_cons] at this
    omega
  | x :: l, L, f + 1, r, hf, hn => by
    obtain ⟨b, h1, h2, h3⟩ := r.first
    have hd : dat L b = dueOf x := by
      have := dat_get h2
      rw [h3] at this
      exact (Option.some.inj this).symm
    rw [advR, h1]
    simp only [Int.toNat_natCast, hd]
    rw [List.takeWhile_cons, List.dropWhile_cons]
    cases hb : dueB to x with
    | true =>
      have hb2 : x.key ≤ to := by simpa [dueB] using hb
      have hc : (0 : Int) ≤ b ∧ (dueOf x).at_ ≤ to := ⟨by omega, hb2⟩
      simp only [if_pos hc, if_true]
      have e1 : cutL (x :: l) x.iD = l := cut_head hn
      have r2 := r.erase h3
      rw [show (dueOf x).iD = x.iD from rfl, e1] at r2
      rw [List.map_cons, List.nodup_cons] at hn
      obtain ⟨q1, q2⟩ := RV.adv to l (L.eraseIdx b) f r2 (by rw [List.length_eraseIdx, if_pos h2]; omega) hn.2
      exact ⟨q1, by rw [List.map_cons, q2]⟩
    | false =>
      have hb2 : ¬ x.key ≤ to := by simpa [dueB] using hb
      have hc : ¬ ((0 : Int) ≤ b ∧ (dueOf x).at_ ≤ to) := fun h => hb2 h.2
      simp only [if_neg hc, Bool.false_eq_true, if_false]
      exact ⟨r, rfl⟩

end Go.Proofs.Ytfbmbjfcgoahfaa
