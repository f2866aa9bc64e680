/-
  The heap, as the list of its items in their order; plain Lean.
-/
import Derived.Test.YtfbmbjfcgoahfaaM2
namespace Go.Proofs.Ytfbmbjfcgoahfaa
open Go Go.AM
set_option linter.unusedVariables false
set_option linter.unusedSimpArgs false

def Sorted (l : List TItem) : Prop := l.Pairwise fun a b => goesB a b = true

structure View (s : HS) (l : List TItem) : Prop where
  g : Good s
  o : Ord s
  n : s.n = l.length
  mem : ∀ x, Mem s x ↔ x ∈ l
  srt : Sorted l

def insL (l : List TItem) (x : TItem) : List TItem := l.takeWhile (goesB · x) ++ x :: l.dropWhile (goesB · x)
def hasL (l : List TItem) (id : Int) : Bool := l.any fun y => decide (y.iD = id)
def cutL (l : List TItem) (id : Int) : List TItem := l.filter fun y => !decide (y.iD = id)
def pushL (l : List TItem) (x : TItem) : List TItem × Int := if hasL l x.iD = true then (l, 5) else if l.length ≥ 4096 then (l, 7) else (insL l x, 0)
def removeL (l : List TItem) (id : Int) : List TItem × Int := if hasL l id = true then (cutL l id, 0) else (l, 6)
def peekL (l : List TItem) : TItem × Bool := match l with | [] => (zItem, false) | x :: _ => (x, true)
def getL (l : List TItem) (id : Int) : TItem × Bool := match l.find? (fun y => decide (y.iD = id)) with | none => (zItem, false) | some x => (x, true)
def changeL (l : List TItem) (x : TItem) : List TItem × Int := if hasL l x.iD = true then pushL (cutL l x.iD) x else (l, 6)

theorem hasL_t {l : List TItem} {id : Int} : hasL l id = true ↔ ∃ y, y ∈ l ∧ y.iD = id := by simp [hasL]
theorem hasL_f {l : List TItem} {id : Int} : hasL l id = false ↔ ∀ y, y ∈ l → y.iD ≠ id := by simp [hasL]
theorem mem_cutL {l : List TItem} {id : Int} {y : TItem} : y ∈ cutL l id ↔ (y ∈ l ∧ y.iD ≠ id) := by simp [cutL]

theorem View.ids {s : HS} {l : List TItem} (v : View s l) : (l.map (·.iD)).Nodup := by
  have key : ∀ l : List TItem, Sorted l → (∀ x y, x ∈ l → y ∈ l → x.iD = y.iD → x = y) → (l.map (·.iD)).Nodup := by
    intro l
    induction l with
    | nil => intros; exact List.nodup_nil
    | cons a l ih =>
      intro hs hi
      unfold Sorted at hs
      rw [List.pairwise_cons] at hs
      rw [List.map_cons, List.nodup_cons]
      refine ⟨fun hm => ?_, ih hs.2 fun x y hx hy => hi x y (List.mem_cons_of_mem _ hx) (List.mem_cons_of_mem _ hy)⟩
      obtain ⟨b, hb, e⟩ := List.mem_map.1 hm
      have := hi a b (List.mem_cons_self ..) (List.mem_cons_of_mem _ hb) e.symm
      subst this
      have := hs.1 a hb
      rw [goes_t] at this
      omega
  refine key l v.srt fun x y hx hy e => ?_
  obtain ⟨i, hi, rfl⟩ := (v.mem x).2 hx
  obtain ⟨j, hj, rfl⟩ := (v.mem y).2 hy
  rw [v.g.inj hi hj e]

theorem len_cutL {l : List TItem} (hn : (l.map (·.iD)).Nodup) {id : Int} (h : ∃ y, y ∈ l ∧ y.iD = id) : (cutL l id).length + 1 = l.length := by
  induction l with
  | nil => obtain ⟨y, hy, _⟩ := h; cases hy
  | cons a l ih =>
    rw [List.map_cons, List.nodup_cons] at hn
    unfold cutL at *
    rw [List.filter_cons]
    by_cases ha : a.iD = id
    · have : l.filter (fun y => !decide (y.iD = id)) = l := by
        rw [List.filter_eq_self]
        intro y hy
        have : y.iD ≠ id := by
          rintro rfl
          exact hn.1 (List.mem_map.2 ⟨y, hy, ha.symm⟩)
        simpa using this
      simp [ha, this]
    · have : ∃ y, y ∈ l ∧ y.iD = id := by
        obtain ⟨y, hy, e⟩ := h
        rcases List.mem_cons.1 hy with rfl | hy
        · exact absurd e ha
        · exact ⟨y, hy, e⟩
      have := ih hn.2 this
      simp [ha]
      omega

theorem sorted_cut {l : List TItem} (h : Sorted l) (id : Int) : Sorted (cutL l id) := List.Pairwise.sublist List.filter_sublist h

theorem goes_trans {a b c : TItem} (h1 : goesB a b = true) (h2 : goesB b c = true) : goesB a c = true := by
  rw [goes_t] at *
  omega
theorem goes_ne {a b : TItem} (h : goesB a b = false) (hn : a.iD ≠ b.iD) : goesB b a = true := by
  rw [goes_f] at h
  rw [goes_t]
  omega

theorem mem_insL {l : List TItem} {x y : TItem} : y ∈ insL l x ↔ (y = x ∨ y ∈ l) := by
  have h : l.takeWhile (goesB · x) ++ l.dropWhile (goesB · x) = l := List.takeWhile_append_dropWhile
  have h2 : y ∈ l ↔ (y ∈ l.takeWhile (goesB · x) ∨ y ∈ l.dropWhile (goesB · x)) := by
    conv => lhs; rw [← h]
    exact List.mem_append
  rw [h2]
  unfold insL
  rw [List.mem_append, List.mem_cons]
  constructor
  · rintro (h | h | h)
    · exact .inr (.inl h)
    · exact .inl h
    · exact .inr (.inr h)
  · rintro (h | h | h)
    · exact .inr (.inl h)
    · exact .inl h
    · exact .inr (.inr h)

theorem len_insL (l : List TItem) (x : TItem) : (insL l x).length = l.length + 1 := by
  have h : l.takeWhile (goesB · x) ++ l.dropWhile (goesB · x) = l := List.takeWhile_append_dropWhile
  have h2 := congrArg List.length h
  rw [List.length_append] at h2
  unfold insL
  rw [List.length_append, List.length_cons]
  omega

theorem sorted_ins {l : List TItem} (h : Sorted l) {x : TItem} (hn : ∀ y, y ∈ l → y.iD ≠ x.iD) : Sorted (insL l x) := by
  induction l with
  | nil => exact List.pairwise_singleton _ _
  | cons a l ih =>
    unfold Sorted at h
    rw [List.pairwise_cons] at h
    unfold insL
    rw [List.takeWhile_cons, List.dropWhile_cons]
    cases hg : goesB a x with
    | true =>
      simp only [if_true, List.cons_append]
      refine List.pairwise_cons.2 ⟨fun y hy => ?_, ih h.2 fun y hy => hn y (List.mem_cons_of_mem _ hy)⟩
      rcases mem_insL.1 hy with rfl | hy
      · exact hg
      · exact h.1 y hy
    | false =>
      simp only [Bool.false_eq_true, if_false, List.nil_append]
      have ha := goes_ne hg (hn a (List.mem_cons_self ..))
      refine List.pairwise_cons.2 ⟨fun y hy => ?_, List.pairwise_cons.2 h⟩
      rcases List.mem_cons.1 hy with rfl | hy
      · exact ha
      · exact goes_trans ha (h.1 y hy)

theorem View.new : View newS [] := ⟨new_good.1, new_good.2, rfl, fun x => ⟨fun ⟨i, hi, _⟩ => absurd hi (Nat.not_lt_zero i), fun h => (nomatch h)⟩, List.Pairwise.nil⟩

theorem View.has {s : HS} {l : List TItem} (v : View s l) (id : Int) : hasL l id = true ↔ ∃ y, Mem s y ∧ y.iD = id := by
  rw [hasL_t]
  constructor
  · rintro ⟨y, h1, h2⟩; exact ⟨y, (v.mem y).2 h1, h2⟩
  · rintro ⟨y, h1, h2⟩; exact ⟨y, (v.mem y).1 h1, h2⟩

theorem View.push {s : HS} {l : List TItem} (v : View s l) {x : TItem} (hx : x.wf) : View (pushS s x).1 (pushL l x).1 ∧ (pushS s x).2 = (pushL l x).2 := by
  unfold pushL
  rcases push_law v.g v.o hx with ⟨h1, h2, h3⟩ | ⟨h1, h2, h3, h4⟩ | ⟨h1, h3, h4, h5, h6, h7, h8⟩
  · rw [if_pos ((v.has _).2 h3), h1, h2]
    exact ⟨v, rfl⟩
  · have hno : hasL l x.iD = false := by rw [hasL_f]; exact fun y hy => h4 y ((v.mem y).2 hy)
    rw [if_neg (by rw [hno]; simp), if_pos (by rw [← v.n]; exact h3), h1, h2]
    exact ⟨v, rfl⟩
  · have hno : hasL l x.iD = false := by rw [hasL_f]; exact fun y hy => h4 y ((v.mem y).2 hy)
    rw [if_neg (by rw [hno]; simp), if_neg (by rw [← v.n]; omega), h1]
    refine ⟨⟨h5, h6, by rw [h7, len_insL, v.n], fun y => ?_, sorted_ins v.srt (hasL_f.1 hno)⟩, rfl⟩
    rw [h8, mem_insL, v.mem]

theorem View.remove {s : HS} {l : List TItem} (v : View s l) (id : Int) : View (removeS s id).1 (removeL l id).1 ∧ (removeS s id).2 = (removeL l id).2 := by
  unfold removeL
  rcases remove_law v.g v.o id with ⟨h1, h2, h3⟩ | ⟨h1, h2, h3, h4, h5, h6, h7⟩
  · have hno : hasL l id = false := by rw [hasL_f]; exact fun y hy => h3 y ((v.mem y).2 hy)
    rw [if_neg (by rw [hno]; simp), h1, h2]
    exact ⟨v, rfl⟩
  · have hh := (v.has id).2 h2
    rw [if_pos hh, h1]
    refine ⟨⟨h4, h5, ?_, fun y => ?_, sorted_cut v.srt id⟩, rfl⟩
    · have := len_cutL v.ids (hasL_t.1 hh)
      show (removeS s id).1.n = (cutL l id).length
      rw [h6, v.n]
      omega
    · rw [h7, mem_cutL, v.mem]

theorem View.peek {s : HS} {l : List TItem} (v : View s l) : peekS s = peekL l := by
  unfold peekS peekL
  cases l with
  | nil => rw [if_pos (show s.n = 0 from v.n)]
  | cons x l =>
    have hn := v.n
    simp only [List.length_cons] at hn
    rw [if_neg (by omega)]
    have h1 : it s 0 ∈ x :: l := (v.mem _).1 ⟨0, by omega, rfl⟩
    obtain ⟨j, hj, e⟩ := (v.mem x).2 (List.mem_cons_self ..)
    have h2 := ord_first v.o j hj
    unfold leS at h2
    rw [e] at h2
    have h3 := v.srt
    unfold Sorted at h3
    rw [List.pairwise_cons] at h3
    rcases List.mem_cons.1 h1 with h4 | h4
    · rw [h4]
    · have := h3.1 _ h4
      rw [this] at h2
      cases h2

theorem View.get {s : HS} {l : List TItem} (v : View s l) (id : Int) : getS s id = getL l id := by
  unfold getS getL
  cases h : mget id s.m with
  | none =>
    have : l.find? (fun y => decide (y.iD = id)) = none := by
      rw [List.find?_eq_none]
      intro y hy
      simpa using v.g.hasnt h y ((v.mem y).2 hy)
    rw [this]
  | some w =>
    obtain ⟨i, hi, rfl, e, hu⟩ := v.g.has h
    simp only [Int.toNat_natCast]
    cases h2 : l.find? (fun y => decide (y.iD = id)) with
    | none =>
      rw [List.find?_eq_none] at h2
      have := h2 (it s i) ((v.mem _).1 ⟨i, hi, rfl⟩)
      simp [e] at this
    | some y =>
      have h3 := List.find?_some h2
      have h4 := List.mem_of_find?_eq_some h2
      rw [← hu y ((v.mem y).2 h4) (by simpa using h3)]

theorem cut_head {x : TItem} {l : List TItem} (hn : ((x :: l).map (·.iD)).Nodup) : cutL (x :: l) x.iD = l := by
  rw [List.map_cons, List.nodup_cons] at hn
  unfold cutL
  rw [List.filter_cons]
  simp only [decide_true, Bool.not_true, Bool.false_eq_true, if_false]
  rw [List.filter_eq_self]
  intro y hy
  have : y.iD ≠ x.iD := fun e => hn.1 (List.mem_map.2 ⟨y, hy, e⟩)
  simpa using this

theorem View.pop {s : HS} {l : List TItem} (v : View s l) : View (popS s).1 l.tail ∧ (popS s).2 = peekL l := by
  have hp := v.peek
  unfold popS
  cases l with
  | nil =>
    rw [if_pos (show s.n = 0 from v.n)]
    exact ⟨v, rfl⟩
  | cons x l =>
    have hn := v.n
    simp only [List.length_cons] at hn
    unfold peekS at hp
    rw [if_neg (by omega)] at hp ⊢
    have e : it s 0 = x := (Prod.mk.inj hp).1
    refine ⟨?_, hp⟩
    obtain ⟨h1, _⟩ := v.remove (it s 0).iD
    unfold removeL at h1
    rw [if_pos (by rw [e, hasL_t]; exact ⟨x, List.mem_cons_self .., rfl⟩), e, cut_head v.ids] at h1
    rw [e]
    exact h1

theorem View.change {s : HS} {l : List TItem} (v : View s l) {x : TItem} (hx : x.wf) : View (changeS s x).1 (changeL l x).1 ∧ (changeS s x).2 = (changeL l x).2 := by
  unfold changeS changeL
  obtain ⟨h1, h2⟩ := v.remove x.iD
  cases h : mget x.iD s.m with
  | none =>
    have hno : hasL l x.iD = false := by rw [hasL_f]; exact fun y hy => v.g.hasnt h y ((v.mem y).2 hy)
    rw [if_neg (by rw [hno]; simp)]
    exact ⟨v, rfl⟩
  | some w =>
    obtain ⟨i, hi, rfl, e, hu⟩ := v.g.has h
    have hh : hasL l x.iD = true := (v.has _).2 ⟨it s i, ⟨i, hi, rfl⟩, e⟩
    unfold removeL at h1
    rw [if_pos hh] at h1 ⊢
    exact h1.push hx

end Go.Proofs.Ytfbmbjfcgoahfaa
