/-
  Sorting that keeps the order of what has the same key; in plain Lean, over lists and parts of arrays.
-/
import Derived.Test.YtdgjelfeclgolaaSK
namespace Go.AM
set_option linter.unusedVariables false
set_option linter.unusedSectionVars false
section
variable {α : Type} (key : α → Int)

def Srt (R : List α) : Prop := R.Pairwise fun x y => key x ≤ key y
/-- The same ones of each key, in the same order. -/
def FP (L R : List α) : Prop := ∀ k, R.filter (fun x => decide (key x = k)) = L.filter (fun x => decide (key x = k))

variable {key}
theorem FP.refl (L : List α) : FP key L L := fun _ => rfl
theorem FP.trans {L M R : List α} (h : FP key L M) (h' : FP key M R) : FP key L R := fun k => (h' k).trans (h k)
theorem FP.symm {L R : List α} (h : FP key L R) : FP key R L := fun k => (h k).symm
theorem FP.append {L R L' R' : List α} (h : FP key L R) (h' : FP key L' R') : FP key (L ++ L') (R ++ R') := fun k => by
  rw [List.filter_append, List.filter_append, h k, h' k]
theorem FP.mem {L R : List α} (h : FP key L R) {x : α} (hx : x ∈ R) : x ∈ L := by
  have : x ∈ R.filter (fun y => decide (key y = key x)) := List.mem_filter.2 ⟨hx, by simp⟩
  rw [h] at this
  exact (List.mem_filter.1 this).1
theorem FP.nil {R : List α} (h : FP key [] R) : R = [] := by
  cases R with
  | nil => rfl
  | cons x t => have := h.mem (List.mem_cons_self ..); cases this

theorem srt_unique : ∀ {R R' : List α}, Srt key R → Srt key R' → FP key R R' → R' = R
  | [], R', _, _, h => h.nil
  | x :: t, [], _, _, h => by have := h.symm.nil; cases this
  | x :: t, y :: t', h1, h2, h => by
    unfold Srt at h1 h2
    rw [List.pairwise_cons] at h1 h2
    have k1 : key y ≤ key x := by
      rcases List.mem_cons.1 (h.symm.mem (List.mem_cons_self ..) : x ∈ y :: t') with e | hm
      · rw [e]; exact Int.le_refl _
      · exact h2.1 x hm
    have k2 : key x ≤ key y := by
      rcases List.mem_cons.1 (h.mem (List.mem_cons_self ..) : y ∈ x :: t) with e | hm
      · rw [e]; exact Int.le_refl _
      · exact h1.1 y hm
    have ke : key y = key x := by omega
    have e1 := h (key x)
    rw [List.filter_cons_of_pos (by simpa using ke), List.filter_cons_of_pos (by simp)] at e1
    injection e1 with e1 e2
    subst e1
    rw [srt_unique h1.2 h2.2 fun k => by
      by_cases hk : key y = k
      · subst hk; exact e2
      · have := h k
        rw [List.filter_cons_of_neg (by simpa using hk), List.filter_cons_of_neg (by simpa using hk)] at this
        exact this]

variable (key)
def ssIns (x : α) (M : List α) : List α := M.takeWhile (fun y => decide (key y < key x)) ++ x :: M.dropWhile (fun y => decide (key y < key x))
def ss (L : List α) : List α := L.foldr (ssIns key) []
variable {key}

theorem mem_takeWhile_lt {p : α → Bool} : ∀ {M : List α} {y : α}, y ∈ M.takeWhile p → p y = true
  | [], y, h => by cases h
  | a :: M, y, h => by
    rw [List.takeWhile_cons] at h
    split at h
    · rename_i ha
      rcases List.mem_cons.1 h with rfl | h
      · exact ha
      · exact mem_takeWhile_lt h
    · cases h

theorem fp_ins (x : α) (M : List α) : FP key (x :: M) (ssIns key x M) := fun k => by
  have e : M.filter (fun y => decide (key y = k)) = (M.takeWhile (fun y => decide (key y < key x))).filter (fun y => decide (key y = k)) ++ (M.dropWhile (fun y => decide (key y < key x))).filter (fun y => decide (key y = k)) := by
    rw [← List.filter_append, List.takeWhile_append_dropWhile]
  unfold ssIns
  rw [List.filter_append]
  by_cases hk : key x = k
  · have hn : (M.takeWhile (fun y => decide (key y < key x))).filter (fun y => decide (key y = k)) = [] := by
      rw [List.filter_eq_nil_iff]
      intro y hy
      have := mem_takeWhile_lt hy
      simp only [decide_eq_true_eq] at this ⊢
      omega
    rw [List.filter_cons_of_pos (by simpa using hk), List.filter_cons_of_pos (by simpa using hk), e, hn]
    rfl
  · rw [List.filter_cons_of_neg (by simpa using hk), List.filter_cons_of_neg (by simpa using hk), e]

theorem dropWhile_ge {x : α} : ∀ {M : List α}, Srt key M → ∀ y, y ∈ M.dropWhile (fun y => decide (key y < key x)) → key x ≤ key y
  | [], _, y, h => by cases h
  | a :: M, hs, y, h => by
    unfold Srt at hs
    rw [List.pairwise_cons] at hs
    rw [List.dropWhile_cons] at h
    split at h
    · exact dropWhile_ge hs.2 y h
    · rename_i ha
      simp only [decide_eq_true_eq, Int.not_lt] at ha
      rcases List.mem_cons.1 h with rfl | h
      · exact ha
      · have := hs.1 y h; omega

theorem srt_ins {x : α} {M : List α} (h : Srt key M) : Srt key (ssIns key x M) := by
  unfold ssIns Srt
  rw [List.pairwise_append]
  refine ⟨List.Pairwise.sublist (List.takeWhile_sublist _) h, ?_, fun y hy z hz => ?_⟩
  · rw [List.pairwise_cons]
    exact ⟨dropWhile_ge h, List.Pairwise.sublist (List.dropWhile_sublist _) h⟩
  · have h1 := mem_takeWhile_lt hy
    simp only [decide_eq_true_eq] at h1
    rcases List.mem_cons.1 hz with rfl | hz
    · omega
    · have := dropWhile_ge h z hz; omega

theorem ss_srt : ∀ L : List α, Srt key (ss key L)
  | [] => List.Pairwise.nil
  | x :: L => srt_ins (ss_srt L)
theorem ss_fp : ∀ L : List α, FP key L (ss key L)
  | [] => .refl _
  | x :: L => (show FP key (x :: L) (x :: ss key L) from fun k => by
      by_cases hk : key x = k
      · rw [List.filter_cons_of_pos (by simpa using hk), List.filter_cons_of_pos (by simpa using hk), ss_fp L k]
      · rw [List.filter_cons_of_neg (by simpa using hk), List.filter_cons_of_neg (by simpa using hk), ss_fp L k]).trans (fp_ins x _)
theorem ss_of {L R : List α} (h : Srt key R) (hf : FP key L R) : R = ss key L := srt_unique (ss_srt L) h ((ss_fp L).symm.trans hf)
theorem ss_self {L : List α} (h : Srt key L) : ss key L = L := (ss_of h (.refl _)).symm
theorem ss_congr {L L' : List α} (h : FP key L L') : ss key L' = ss key L := ss_of (ss_srt _) (h.trans (ss_fp _))
theorem ss_len (L : List α) : (ss key L).length = L.length := by
  induction L with
  | nil => rfl
  | cons x L ih =>
    show (ssIns key x (ss key L)).length = _
    have : (ss key L).length = ((ss key L).takeWhile (fun y => decide (key y < key x))).length + ((ss key L).dropWhile (fun y => decide (key y < key x))).length := by
      rw [← List.length_append, List.takeWhile_append_dropWhile]
    unfold ssIns
    rw [List.length_append, List.length_cons, List.length_cons]
    omega
theorem ss_mem {L : List α} {x : α} : x ∈ ss key L ↔ x ∈ L := ⟨fun h => (ss_fp L).mem h, fun h => (ss_fp L).symm.mem h⟩

/-- Two parts of which each one of the first is before each one of the second. -/
theorem ss_append {A B : List α} (h : ∀ x y, x ∈ A → y ∈ B → key x ≤ key y) : ss key (A ++ B) = ss key A ++ ss key B := by
  refine (ss_of ?_ ((ss_fp A).append (ss_fp B))).symm
  unfold Srt
  rw [List.pairwise_append]
  exact ⟨ss_srt A, ss_srt B, fun x hx y hy => h x y (ss_mem.1 hx) (ss_mem.1 hy)⟩

/-- Two neighbours of which the second is strictly before the first may change places. -/
theorem fp_swap {A B : List α} (h : ∀ x y, x ∈ A → y ∈ B → key y < key x) : FP key (A ++ B) (B ++ A) := fun k => by
  rw [List.filter_append, List.filter_append]
  by_cases hA : A.filter (fun x => decide (key x = k)) = []
  · rw [hA]; simp
  · have hB : B.filter (fun x => decide (key x = k)) = [] := by
      rw [List.filter_eq_nil_iff]
      intro y hy e
      cases hx : A.filter (fun x => decide (key x = k)) with
      | nil => exact hA hx
      | cons x t =>
        have hm : x ∈ A.filter (fun x => decide (key x = k)) := by rw [hx]; exact List.mem_cons_self ..
        have h2 := List.mem_filter.1 hm
        have := h x y h2.1 hy
        simp only [decide_eq_true_eq] at e h2
        omega
    rw [hB]; simp

theorem sym_law {X1 X2 Y1 Y2 : List α} (hX : Srt key (X1 ++ X2)) (hY : Srt key (Y1 ++ Y2)) (h1 : ∀ x y, x ∈ X1 → y ∈ Y2 → key x ≤ key y) (h2 : ∀ x y, x ∈ X2 → y ∈ Y1 → key y < key x) :
    ss key ((X1 ++ X2) ++ (Y1 ++ Y2)) = ss key (X1 ++ Y1) ++ ss key (X2 ++ Y2) := by
  unfold Srt at hX hY
  rw [List.pairwise_append] at hX hY
  have e : FP key ((X1 ++ X2) ++ (Y1 ++ Y2)) ((X1 ++ Y1) ++ (X2 ++ Y2)) := by
    rw [List.append_assoc, List.append_assoc, ← List.append_assoc X2, ← List.append_assoc Y1]
    exact (FP.refl X1).append ((fp_swap h2).append (.refl _))
  rw [← ss_congr e]
  refine ss_append fun x y hx hy => ?_
  rcases List.mem_append.1 hx with hx | hx <;> rcases List.mem_append.1 hy with hy | hy
  · exact hX.2.2 x hx y hy
  · exact h1 x y hx hy
  · have := h2 y x hy hx; omega
  · exact hY.2.2 x hx y hy
end

section
variable {α : Type} [Inhabited α]
/-- A part of an array. -/
def slc (d : Array α) (a b : Nat) : List α := (d.toList.drop a).take (b - a)

theorem arr_ext {d d' : Array α} (hs : d'.size = d.size) (h : ∀ k, k < d.size → d'[k]! = d[k]!) : d' = d := by
  apply Array.ext hs
  intro i h1 h2
  have := h i h2
  rw [getElem!_pos d' i h1, getElem!_pos d i h2] at this
  exact this

omit [Inhabited α] in
theorem slc_len (d : Array α) {a b : Nat} (hb : b ≤ d.size) : (slc d a b).length = b - a := by
  unfold slc; rw [List.length_take, List.length_drop, Array.length_toList]; omega
theorem slc_get (d : Array α) {a b i : Nat} (hb : b ≤ d.size) (h : i < b - a) : (slc d a b)[i]? = some d[a + i]! := by
  unfold slc
  rw [List.getElem?_take, if_pos h, List.getElem?_drop, Array.getElem?_toList, getElem!_pos d (a + i) (by omega), Array.getElem?_eq_getElem]
theorem slc_mem {d : Array α} {a b : Nat} (hb : b ≤ d.size) {x : α} : x ∈ slc d a b ↔ ∃ k, a ≤ k ∧ k < b ∧ d[k]! = x := by
  constructor
  · intro h
    obtain ⟨i, hi⟩ := List.getElem?_of_mem h
    have hl : i < (slc d a b).length := (List.getElem?_eq_some_iff.1 hi).1
    rw [slc_len d hb] at hl
    rw [slc_get d hb hl] at hi
    injection hi with hi
    exact ⟨a + i, by omega, by omega, hi⟩
  · rintro ⟨k, h1, h2, rfl⟩
    have := slc_get d (a := a) hb (show k - a < b - a by omega)
    rw [show a + (k - a) = k by omega] at this
    exact List.mem_of_getElem? this
omit [Inhabited α] in
theorem slc_append (d : Array α) {a m b : Nat} (h1 : a ≤ m) (h2 : m ≤ b) : slc d a b = slc d a m ++ slc d m b := by
  unfold slc
  have e : d.toList.drop m = (d.toList.drop a).drop (m - a) := by rw [List.drop_drop]; congr 1; omega
  rw [e, show b - a = (m - a) + (b - m) by omega, List.take_add]
theorem slc_congr {d d' : Array α} {a b a' b' : Nat} (hb : b ≤ d.size) (hb' : b' ≤ d'.size) (hl : b - a = b' - a') (h : ∀ i, i < b - a → d'[a' + i]! = d[a + i]!) : slc d' a' b' = slc d a b := by
  apply List.ext_getElem?
  intro i
  by_cases hi : i < b - a
  · rw [slc_get d hb hi, slc_get d' hb' (by omega), h i hi]
  · rw [List.getElem?_eq_none (by rw [slc_len d' hb']; omega), List.getElem?_eq_none (by rw [slc_len d hb]; omega)]
theorem slc_srt {key : α → Int} {d : Array α} {a b : Nat} (hb : b ≤ d.size) : Srt key (slc d a b) ↔ ∀ i j, a ≤ i → i < j → j < b → key d[i]! ≤ key d[j]! := by
  unfold Srt
  rw [List.pairwise_iff_getElem]
  constructor
  · intro h i j h1 h2 h3
    have := h (i - a) (j - a) (by rw [slc_len d hb]; omega) (by rw [slc_len d hb]; omega) (by omega)
    have e1 := slc_get d (a := a) hb (show i - a < b - a by omega)
    have e2 := slc_get d (a := a) hb (show j - a < b - a by omega)
    rw [List.getElem?_eq_getElem (by rw [slc_len d hb]; omega)] at e1 e2
    injection e1 with e1
    injection e2 with e2
    rw [e1, e2, show a + (i - a) = i by omega, show a + (j - a) = j by omega] at this
    exact this
  · intro h i j hi hj hij
    rw [slc_len d hb] at hi hj
    have e1 := slc_get d (a := a) hb hi
    have e2 := slc_get d (a := a) hb hj
    rw [List.getElem?_eq_getElem (by rw [slc_len d hb]; omega)] at e1 e2
    injection e1 with e1
    injection e2 with e2
    rw [e1, e2]
    exact h _ _ (by omega) (by omega) (by omega)
omit [Inhabited α] in
theorem slc_all (d : Array α) : slc d 0 d.size = d.toList := by
  unfold slc; rw [List.drop_zero]; exact List.take_of_length_le (by rw [Array.length_toList]; omega)

variable (key : α → Int)
/-- A part is sorted. -/
def segA (d : Array α) (a b : Nat) : Array α := (d.toList.take a ++ (ss key (slc d a b) ++ d.toList.drop b)).toArray
variable {key}

theorem seg_size (d : Array α) {a b : Nat} (hab : a ≤ b) (hb : b ≤ d.size) : (segA key d a b).size = d.size := by
  unfold segA
  rw [List.size_toArray, List.length_append, List.length_append, ss_len, slc_len d hb, List.length_take, List.length_drop, Array.length_toList]
  omega
theorem seg_out (d : Array α) {a b k : Nat} (hab : a ≤ b) (hb : b ≤ d.size) (hk : k < a ∨ b ≤ k) : (segA key d a b)[k]! = d[k]! := by
  by_cases h : k < d.size
  · have h2 : k < (segA key d a b).size := by rw [seg_size d hab hb]; exact h
    rw [getElem!_pos _ k h2, getElem!_pos _ k h]
    have e : (segA key d a b)[k]? = d[k]? := by
      unfold segA
      rw [List.getElem?_toArray]
      rcases hk with hk | hk
      · rw [List.getElem?_append_left (by rw [List.length_take, Array.length_toList]; omega), List.getElem?_take, if_pos hk, Array.getElem?_toList]
      · rw [List.getElem?_append_right (by rw [List.length_take, Array.length_toList]; omega), List.getElem?_append_right (by rw [ss_len, slc_len d hb, List.length_take, Array.length_toList]; omega), List.getElem?_drop, Array.getElem?_toList]
        congr 1
        rw [ss_len, slc_len d hb, List.length_take, Array.length_toList]
        omega
    rw [Array.getElem?_eq_getElem h2, Array.getElem?_eq_getElem h] at e
    exact Option.some.inj e
  · rw [getElem!_neg _ k (by rw [seg_size d hab hb]; exact h), getElem!_neg _ k h]
theorem seg_slc (d : Array α) {a b : Nat} (hab : a ≤ b) (hb : b ≤ d.size) : slc (segA key d a b) a b = ss key (slc d a b) := by
  unfold segA
  rw [slc]
  have h1 : (d.toList.take a).length = a := by rw [List.length_take, Array.length_toList]; omega
  show List.take (b - a) (List.drop a (d.toList.take a ++ (ss key (slc d a b) ++ d.toList.drop b))) = _
  rw [List.drop_append_of_le_length (by omega), List.drop_of_length_le (by omega), List.nil_append, List.take_append_of_le_length (by rw [ss_len, slc_len d hb]; omega), List.take_of_length_le (by rw [ss_len, slc_len d hb]; omega)]
theorem seg_eq {d d' : Array α} {a b : Nat} (hab : a ≤ b) (hb : b ≤ d.size) (hs : d'.size = d.size) (ho : ∀ k, k < a ∨ b ≤ k → d'[k]! = d[k]!) (hl : slc d' a b = ss key (slc d a b)) : d' = segA key d a b := by
  refine arr_ext (by rw [seg_size d hab hb]; exact hs) fun k hk => ?_
  rw [seg_size d hab hb] at hk
  by_cases h : k < a ∨ b ≤ k
  · rw [ho k h, seg_out d hab hb h]
  · have e := seg_slc (key := key) d hab hb
    rw [← hl] at e
    have e1 := slc_get d' (a := a) (b := b) (by omega) (show k - a < b - a by omega)
    have e2 := slc_get (segA key d a b) (a := a) (b := b) (by rw [seg_size d hab hb]; exact hb) (show k - a < b - a by omega)
    rw [e, e1] at e2
    injection e2 with e2
    rw [show a + (k - a) = k by omega] at e2
    exact e2
theorem seg_self {d : Array α} {a b : Nat} (hab : a ≤ b) (hb : b ≤ d.size) (h : Srt key (slc d a b)) : segA key d a b = d := (seg_eq hab hb rfl (fun _ _ => rfl) (ss_self h).symm).symm

/-- A part is turned: [m, e) comes ahead of [s, m). -/
def rotA (d : Array α) (s m e : Nat) : Array α := (d.toList.take s ++ (slc d m e ++ (slc d s m ++ d.toList.drop e))).toArray
theorem rot_size (d : Array α) {s m e : Nat} (h1 : s ≤ m) (h2 : m ≤ e) (he : e ≤ d.size) : (rotA d s m e).size = d.size := by
  unfold rotA
  rw [List.size_toArray, List.length_append, List.length_append, List.length_append, slc_len d he, slc_len d (by omega), List.length_take, List.length_drop, Array.length_toList]
  omega
theorem rot_get (d : Array α) {s m e k : Nat} (h1 : s ≤ m) (h2 : m ≤ e) (he : e ≤ d.size) (hk : k < d.size) :
    (rotA d s m e)[k]! = if s ≤ k ∧ k < s + (e - m) then d[k + (m - s)]! else if s + (e - m) ≤ k ∧ k < e then d[k - (e - m)]! else d[k]! := by
  have h3 : k < (rotA d s m e).size := by rw [rot_size d h1 h2 he]; exact hk
  have key : (rotA d s m e)[k]? = if s ≤ k ∧ k < s + (e - m) then d[k + (m - s)]? else if s + (e - m) ≤ k ∧ k < e then d[k - (e - m)]? else d[k]? := by
    unfold rotA
    rw [List.getElem?_toArray]
    have l1 : (d.toList.take s).length = s := by rw [List.length_take, Array.length_toList]; omega
    have l2 := slc_len d (a := m) he
    have l3 := slc_len d (a := s) (show m ≤ d.size by omega)
    by_cases c0 : k < s
    · rw [if_neg (by omega), if_neg (by omega), List.getElem?_append_left (by omega), List.getElem?_take, if_pos c0, Array.getElem?_toList]
    · rw [List.getElem?_append_right (by omega), l1]
      by_cases c1 : k < s + (e - m)
      · rw [if_pos ⟨by omega, c1⟩, List.getElem?_append_left (by omega), slc_get d he (by omega), getElem!_pos d _ (by omega), Array.getElem?_eq_getElem (show k + (m - s) < d.size by omega)]
        congr 2; omega
      · rw [if_neg (by omega), List.getElem?_append_right (by omega), l2]
        by_cases c2 : k < e
        · rw [if_pos ⟨by omega, c2⟩, List.getElem?_append_left (by omega), slc_get d (by omega) (by omega), getElem!_pos d _ (by omega), Array.getElem?_eq_getElem (show k - (e - m) < d.size by omega)]
          congr 2; omega
        · rw [if_neg (by omega), List.getElem?_append_right (by omega), l3, List.getElem?_drop, Array.getElem?_toList]
          congr 1; omega
  rw [getElem!_pos _ k h3, ← Option.some_inj, ← Array.getElem?_eq_getElem h3, key]
  split
  · rw [getElem!_pos d _ (by omega), Array.getElem?_eq_getElem (show k + (m - s) < d.size by omega)]
  · split
    · rw [getElem!_pos d _ (by omega), Array.getElem?_eq_getElem (show k - (e - m) < d.size by omega)]
    · rw [getElem!_pos d _ hk, Array.getElem?_eq_getElem hk]
theorem rot_eq {d d' : Array α} {s m e : Nat} (h1 : s ≤ m) (h2 : m ≤ e) (he : e ≤ d.size) (hs : d'.size = d.size)
    (h : ∀ k, k < d.size → d'[k]! = if s ≤ k ∧ k < s + (e - m) then d[k + (m - s)]! else if s + (e - m) ≤ k ∧ k < e then d[k - (e - m)]! else d[k]!) : d' = rotA d s m e :=
  arr_ext (by rw [rot_size d h1 h2 he]; exact hs) fun k hk => by rw [rot_size d h1 h2 he] at hk; rw [h k hk, rot_get d h1 h2 he hk]
theorem rot_self {d : Array α} {s m e : Nat} (h1 : s ≤ m) (h2 : m ≤ e) (he : e ≤ d.size) (h : s = m ∨ m = e) : rotA d s m e = d := (rot_eq h1 h2 he rfl fun k hk => by
  split
  · congr 1; omega
  · split
    · congr 1; omega
    · rfl).symm

/-- Merging by turning: what the two searches find parts the work. -/
theorem sym_arr {key : α → Int} {d : Array α} {a m b s e mid : Nat} (h1 : a ≤ s) (h2 : s ≤ m) (h3 : m ≤ e) (h4 : e ≤ b) (hb : b ≤ d.size) (hm : mid + m = s + e) (hX : Srt key (slc d a m)) (hY : Srt key (slc d m b))
    (c1 : a < s → e < b → key d[s - 1]! ≤ key d[e]!) (c2 : s < m → m < e → key d[e - 1]! < key d[s]!) :
    segA key (segA key (rotA d s m e) a mid) mid b = segA key d a b := by
  have hsz := rot_size d h2 h3 (by omega : e ≤ d.size)
  have g := fun k (hk : k < d.size) => rot_get d h2 h3 (by omega : e ≤ d.size) hk
  have hX' := (slc_srt (by omega)).1 hX
  have hY' := (slc_srt hb).1 hY
  have q1 : slc (rotA d s m e) a mid = slc d a s ++ slc d m e := by
    rw [slc_append _ (show a ≤ s from h1) (by omega)]
    congr 1
    · exact slc_congr (by omega) (by omega) rfl fun i hi => by rw [g _ (by omega), if_neg (by omega), if_neg (by omega)]
    · exact slc_congr (by omega) (by omega) (by omega) fun i hi => by
        rw [g _ (by omega), if_pos (by omega)]; congr 1; omega
  have q2 : slc (rotA d s m e) mid b = slc d s m ++ slc d e b := by
    rw [slc_append _ (show mid ≤ e by omega) h4]
    congr 1
    · exact slc_congr (by omega) (by omega) (by omega) fun i hi => by
        rw [g _ (by omega), if_neg (by omega), if_pos (by omega)]; congr 1; omega
    · exact slc_congr (by omega) (by omega) rfl fun i hi => by rw [g _ (by omega), if_neg (by omega), if_neg (by omega)]
  have z1 := seg_size (key := key) (rotA d s m e) (show a ≤ mid by omega) (by omega)
  have z2 := seg_size (key := key) (segA key (rotA d s m e) a mid) (show mid ≤ b by omega) (by omega)
  have q3 : slc (segA key (rotA d s m e) a mid) mid b = slc (rotA d s m e) mid b := slc_congr (by omega) (by omega) rfl fun i hi => seg_out _ (by omega) (by omega) (.inr (by omega))
  have q4 : slc (segA key (segA key (rotA d s m e) a mid) mid b) a mid = slc (segA key (rotA d s m e) a mid) a mid := slc_congr (by omega) (by omega) rfl fun i hi => seg_out _ (by omega) (by omega) (.inl (by omega))
  refine seg_eq (by omega) hb (by omega) (fun k hk => ?_) ?_
  · rw [seg_out _ (by omega) (by omega) (by omega), seg_out _ (by omega) (by omega) (by omega)]
    by_cases hk2 : k < d.size
    · rw [g k hk2, if_neg (by omega), if_neg (by omega)]
    · rw [getElem!_neg _ k (by omega), getElem!_neg _ k hk2]
  · rw [slc_append _ (show a ≤ mid by omega) (show mid ≤ b by omega), seg_slc _ (by omega) (by omega), q4, seg_slc _ (by omega) (by omega), q3, q1, q2, slc_append d (show a ≤ m by omega) (show m ≤ b by omega), slc_append d h1 h2, slc_append d h3 h4]
    rw [slc_append d h1 h2] at hX
    rw [slc_append d h3 h4] at hY
    refine (sym_law hX hY (fun x y hx hy => ?_) (fun x y hx hy => ?_)).symm
    · obtain ⟨i, i1, i2, rfl⟩ := (slc_mem (by omega)).1 hx
      obtain ⟨j, j1, j2, rfl⟩ := (slc_mem hb).1 hy
      have k1 := c1 (by omega) (by omega)
      have k2 : key d[i]! ≤ key d[s - 1]! := by
        by_cases e : i = s - 1
        · rw [e]; exact Int.le_refl _
        · exact hX' i (s - 1) i1 (by omega) (by omega)
      have k3 : key d[e]! ≤ key d[j]! := by
        by_cases e' : e = j
        · rw [e']; exact Int.le_refl _
        · exact hY' e j (by omega) (by omega) j2
      omega
    · obtain ⟨i, i1, i2, rfl⟩ := (slc_mem (by omega)).1 hx
      obtain ⟨j, j1, j2, rfl⟩ := (slc_mem (by omega)).1 hy
      have k1 := c2 (by omega) (by omega)
      have k2 : key d[s]! ≤ key d[i]! := by
        by_cases e : s = i
        · rw [e]; exact Int.le_refl _
        · exact hX' s i (by omega) (by omega) i2
      have k3 : key d[j]! ≤ key d[e - 1]! := by
        by_cases e' : j = e - 1
        · rw [e']; exact Int.le_refl _
        · exact hY' j (e - 1) j1 (by omega) (by omega)
      omega
end
end Go.AM
