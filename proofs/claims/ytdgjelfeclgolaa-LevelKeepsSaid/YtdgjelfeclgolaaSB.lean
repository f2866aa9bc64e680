/-
  Merging by turning, its ends; insertion sort keeps the order of what has the same key; in plain Lean.
-/
import Derived.Test.YtdgjelfeclgolaaSR
import Derived.Sort.AssemblyPlain
namespace Go.AM
set_option linter.unusedVariables false
set_option linter.unusedSectionVars false
variable {α : Type} [Inhabited α] {key : α → Int}

theorem rot_slc1 {d : Array α} {a s m e mid : Nat} (h1 : a ≤ s) (h2 : s ≤ m) (h3 : m ≤ e) (he : e ≤ d.size) (hm : mid + m = s + e) : slc (rotA d s m e) a mid = slc d a s ++ slc d m e := by
  have hsz := rot_size d h2 h3 he
  have g := fun k (hk : k < d.size) => rot_get d h2 h3 he hk
  rw [slc_append _ (show a ≤ s from h1) (by omega)]
  congr 1
  · exact slc_congr (by omega) (by omega) rfl fun i hi => by rw [g _ (by omega), if_neg (by omega), if_neg (by omega)]
  · exact slc_congr (by omega) (by omega) (by omega) fun i hi => by
      rw [g _ (by omega), if_pos (by omega)]; exact at_eq (by omega)
theorem rot_slc2 {d : Array α} {s m e mid b : Nat} (h2 : s ≤ m) (h3 : m ≤ e) (h4 : e ≤ b) (hb : b ≤ d.size) (hm : mid + m = s + e) : slc (rotA d s m e) mid b = slc d s m ++ slc d e b := by
  have hsz := rot_size d h2 h3 (by omega : e ≤ d.size)
  have g := fun k (hk : k < d.size) => rot_get d h2 h3 (by omega : e ≤ d.size) hk
  rw [slc_append _ (show mid ≤ e by omega) h4]
  congr 1
  · exact slc_congr (by omega) (by omega) (by omega) fun i hi => by
      rw [g _ (by omega), if_neg (by omega), if_pos (by omega)]; exact at_eq (by omega)
  · exact slc_congr (by omega) (by omega) rfl fun i hi => by rw [g _ (by omega), if_neg (by omega), if_neg (by omega)]

theorem rot_fwd {d : Array α} {a k : Nat} (h1 : a ≤ k) (h2 : k + 1 < d.size) : Sort.swp (rotA d a (a + 1) (k + 1)) k (k + 1) = rotA d a (a + 1) (k + 2) := by
  have hs := rot_size d (show a ≤ a + 1 by omega) (show a + 1 ≤ k + 1 by omega) (by omega)
  have g := fun j (hj : j < d.size) => rot_get d (show a ≤ a + 1 by omega) (show a + 1 ≤ k + 1 by omega) (by omega) hj
  refine rot_eq (by omega) (by omega) (by omega) (by rw [Sort.size_swp]; exact hs) fun j hj => ?_
  rw [swp_at _ (by omega) (by omega), g k (by omega), g (k + 1) (by omega), g j hj]
  clear g
  repeat' split
  all_goals first | rfl | exact at_eq (by omega) | (exfalso; omega)
theorem rot_bwd {d : Array α} {m k : Nat} (h0 : 0 < k) (h1 : k ≤ m) (h2 : m < d.size) : Sort.swp (rotA d k m (m + 1)) k (k - 1) = rotA d (k - 1) m (m + 1) := by
  have hs := rot_size d h1 (show m ≤ m + 1 by omega) (by omega)
  have g := fun j (hj : j < d.size) => rot_get d h1 (show m ≤ m + 1 by omega) (by omega) hj
  refine rot_eq (by omega) (by omega) (by omega) (by rw [Sort.size_swp]; exact hs) fun j hj => ?_
  rw [swp_at _ (by omega) (by omega), g k (by omega), g (k - 1) (by omega), g j hj]
  clear g
  repeat' split
  all_goals first | rfl | exact at_eq (by omega) | (exfalso; omega)

theorem srt_sub {d : Array α} {a b a' b' : Nat} (hb : b ≤ d.size) (h : Srt key (slc d a b)) (h1 : a ≤ a') (h2 : b' ≤ b) : Srt key (slc d a' b') := by
  rw [slc_srt (by omega)] at h ⊢
  exact fun i j q1 q2 q3 => h i j (by omega) q2 (by omega)
omit [Inhabited α] in
theorem srt_app {A B : List α} (hA : Srt key A) (hB : Srt key B) (h : ∀ x y, x ∈ A → y ∈ B → key x ≤ key y) : Srt key (A ++ B) := by
  unfold Srt at *
  rw [List.pairwise_append]
  exact ⟨hA, hB, fun x hx y hy => h x y hx hy⟩
theorem slc_nil (d : Array α) (a : Nat) : slc d a a = [] := by unfold slc; simp
theorem srt_nil : Srt key ([] : List α) := List.Pairwise.nil

theorem sym_one {d : Array α} {a b i : Nat} (h1 : a + 1 ≤ i) (h2 : i ≤ b) (hb : b ≤ d.size) (hY : Srt key (slc d (a + 1) b)) (c1 : i = a + 1 ∨ key d[i - 1]! < key d[a]!) (c2 : i = b ∨ ¬ key d[i]! < key d[a]!) : rotA d a (a + 1) i = segA key d a b := by
  have hX : Srt key (slc d a (a + 1)) := (slc_srt (by omega)).2 fun p q _ _ _ => by omega
  have L := sym_arr (key := key) (d := d) (a := a) (m := a + 1) (b := b) (s := a) (e := i) (mid := i - 1) (Nat.le_refl _) (by omega) h1 h2 hb (by omega) hX hY (fun h => by omega) (fun _ h => by omega)
  have q1 := rot_slc1 (d := d) (a := a) (s := a) (m := a + 1) (e := i) (mid := i - 1) (Nat.le_refl _) (by omega) h1 (by omega) (by omega)
  have q2 := rot_slc2 (d := d) (s := a) (m := a + 1) (e := i) (mid := i - 1) (b := b) (by omega) h1 h2 hb (by omega)
  have hsz := rot_size d (show a ≤ a + 1 by omega) h1 (by omega : i ≤ d.size)
  have hY' := (slc_srt hb).1 hY
  rw [seg_self (a := a) (b := i - 1) (by omega) (by omega) (by rw [q1, slc_nil, List.nil_append]; exact srt_sub hb hY (Nat.le_refl _) h2), seg_self (a := i - 1) (b := b) (by omega) (by omega) (by
    rw [q2]
    refine srt_app hX (srt_sub hb hY h1 (Nat.le_refl _)) fun x y hx hy => ?_
    obtain ⟨p, p1, p2, rfl⟩ := (slc_mem (by omega)).1 hx
    obtain ⟨q, q3, q4, rfl⟩ := (slc_mem hb).1 hy
    obtain rfl : p = a := by omega
    rcases c2 with c2 | c2
    · omega
    · by_cases e : i = q
      · subst e; omega
      · have := hY' i q h1 (by omega) q4; omega)] at L
  exact L

theorem sym_last {d : Array α} {a m i : Nat} (h1 : a ≤ i) (h2 : i ≤ m) (hb : m + 1 ≤ d.size) (hX : Srt key (slc d a m)) (c1 : i = a ∨ ¬ key d[m]! < key d[i - 1]!) (c2 : i = m ∨ key d[m]! < key d[i]!) : rotA d i m (m + 1) = segA key d a (m + 1) := by
  have hY : Srt key (slc d m (m + 1)) := (slc_srt hb).2 fun p q _ _ _ => by omega
  have L := sym_arr (key := key) (d := d) (a := a) (m := m) (b := m + 1) (s := i) (e := m + 1) (mid := i + 1) h1 h2 (by omega) (Nat.le_refl _) hb (by omega) hX hY (fun _ h => by omega) (fun h _ => by rw [Nat.add_sub_cancel]; omega)
  have q1 := rot_slc1 (d := d) (a := a) (s := i) (m := m) (e := m + 1) (mid := i + 1) h1 h2 (by omega) hb (by omega)
  have q2 := rot_slc2 (d := d) (s := i) (m := m) (e := m + 1) (mid := i + 1) (b := m + 1) h2 (by omega) (Nat.le_refl _) hb (by omega)
  have hsz := rot_size d h2 (show m ≤ m + 1 by omega) hb
  have hX' := (slc_srt (by omega)).1 hX
  rw [seg_self (a := a) (b := i + 1) (by omega) (by omega) (by
    rw [q1]
    refine srt_app (srt_sub (by omega) hX (Nat.le_refl _) h2) hY fun x y hx hy => ?_
    obtain ⟨p, p1, p2, rfl⟩ := (slc_mem (by omega)).1 hx
    obtain ⟨q, q1, q2, rfl⟩ := (slc_mem hb).1 hy
    obtain rfl : q = m := by omega
    rcases c1 with c1 | c1
    · omega
    · by_cases e : p = i - 1
      · subst e; omega
      · have := hX' p (i - 1) p1 (by omega) (by omega); omega), seg_self (a := i + 1) (b := m + 1) (by omega) (by omega) (by rw [q2, slc_nil, List.append_nil]; exact srt_sub (by omega) hX h1 (Nat.le_refl _))] at L
  exact L

/-! ### Insertion sort -/
theorem fp_adj {d : Array α} {j : Nat} (hj : j + 1 < d.size) (h : key d[j + 1]! < key d[j]!) : FP key d.toList (Sort.swp d (j + 1) j).toList := by
  have hs := Sort.size_swp d (j + 1) j
  have g := swp_at d (i := j + 1) (j := j) hj (by omega)
  have e1 : d.toList = slc d 0 j ++ (slc d j (j + 1) ++ (slc d (j + 1) (j + 2) ++ slc d (j + 2) d.size)) := by
    rw [← slc_append d (by omega) (by omega), ← slc_append d (by omega) (by omega), ← slc_append d (by omega) (by omega), slc_all]
  have e2 : (Sort.swp d (j + 1) j).toList = slc d 0 j ++ (slc d (j + 1) (j + 2) ++ (slc d j (j + 1) ++ slc d (j + 2) d.size)) := by
    rw [← slc_all, slc_append _ (show 0 ≤ j by omega) (by omega), slc_append _ (show j ≤ j + 1 by omega) (by omega), slc_append _ (show j + 1 ≤ j + 2 by omega) (by omega)]
    congr 1
    · exact slc_congr (by omega) (by omega) rfl fun i hi => by rw [g, if_neg (by omega), if_neg (by omega)]
    congr 1
    · exact slc_congr (by omega) (by omega) (by omega) fun i hi => by rw [g, if_pos (by omega)]; exact at_eq (by omega)
    congr 1
    · exact slc_congr (by omega) (by omega) (by omega) fun i hi => by rw [g, if_neg (by omega), if_pos (by omega)]; exact at_eq (by omega)
    · exact slc_congr (by omega) (by omega) (by omega) fun i hi => by rw [g, if_neg (by omega), if_neg (by omega)]
  rw [e1, e2, ← List.append_assoc (slc d j (j + 1)), ← List.append_assoc (slc d (j + 1) (j + 2))]
  refine (FP.refl _).append (FP.append (fp_swap fun x y hx hy => ?_) (.refl _))
  obtain ⟨p, p1, p2, rfl⟩ := (slc_mem (by omega)).1 hx
  obtain ⟨q, q1, q2, rfl⟩ := (slc_mem (by omega)).1 hy
  obtain rfl : p = j := by omega
  obtain rfl : q = p + 1 := by omega
  exact h

variable {lt : α → α → Bool}
theorem fp_insInner (hlt : ∀ x y, lt x y = true ↔ key x < key y) (a : Nat) : ∀ (j : Nat) (d : Array α), j < d.size → FP key d.toList (Sort.insInner lt a j d).toList ∧ (Sort.insInner lt a j d).size = d.size
  | 0, d, _ => ⟨.refl _, rfl⟩
  | j + 1, d, hj => by
    rw [Sort.insInner]
    split
    · rename_i h
      simp only [Bool.and_eq_true, decide_eq_true_eq] at h
      obtain ⟨h1, h2⟩ := fp_insInner hlt a j (Sort.swp d (j + 1) j) (by rw [Sort.size_swp]; omega)
      exact ⟨(fp_adj hj ((hlt _ _).1 h.2)).trans h1, by rw [h2, Sort.size_swp]⟩
    · exact ⟨.refl _, rfl⟩
theorem fp_insOuter (hlt : ∀ x y, lt x y = true ↔ key x < key y) (a b : Nat) : ∀ (f i : Nat) (d : Array α), b - i = f → b ≤ d.size → FP key d.toList (Sort.insOuter lt a b i d).toList
  | 0, i, d, h, hb => by rw [Sort.insOuter, if_neg (by omega)]; exact .refl _
  | f + 1, i, d, h, hb => by
    rw [Sort.insOuter, if_pos (by omega)]
    obtain ⟨h1, h2⟩ := fp_insInner hlt a i d (by omega)
    exact h1.trans (fp_insOuter hlt a b f (i + 1) _ (by omega) (by rw [h2]; exact hb))

omit [Inhabited α] in
theorem swo_key (hlt : ∀ x y, lt x y = true ↔ key x < key y) : Sort.SWO lt := by
  have hf : ∀ x y, lt x y = false ↔ ¬ key x < key y := fun x y => by rw [← hlt x y]; cases lt x y <;> simp
  refine ⟨fun x => ?_, fun x y z h1 h2 => ?_, fun x y z h1 h2 => ?_⟩
  · rw [hf]; omega
  · rw [hlt] at *; omega
  · rw [hf] at *; omega

omit [Inhabited α] in
theorem fp_cancel {A B L R : List α} (h : FP key (A ++ (L ++ B)) (A ++ (R ++ B))) : FP key L R := fun k => by
  have := h k
  rw [List.filter_append, List.filter_append, List.filter_append, List.filter_append] at this
  exact List.append_cancel_right (List.append_cancel_left this)

theorem ins_seg (hlt : ∀ x y, lt x y = true ↔ key x < key y) (d : Array α) {a b : Nat} (hab : a ≤ b) (hb : b ≤ d.size) : Sort.insertionSort lt d a b = segA key d a b := by
  obtain ⟨P, S⟩ := Sort.insertionSort_holds (swo_key hlt) d a b hab hb
  have F := fp_insOuter hlt a b _ (a + 1) d rfl hb
  have F : FP key d.toList (Sort.insertionSort lt d a b).toList := F
  generalize Sort.insertionSort lt d a b = d' at *
  have hf : ∀ x y, lt x y = false ↔ ¬ key x < key y := fun x y => by rw [← hlt x y]; cases lt x y <;> simp
  refine seg_eq hab hb P.1 P.2.1 (ss_of ((slc_srt (by rw [P.1]; exact hb)).2 fun i j h1 h2 h3 => by have := S i j h1 h2 h3; rw [hf] at this; omega) ?_)
  have e1 : d.toList = slc d 0 a ++ (slc d a b ++ slc d b d.size) := by rw [← slc_append d (by omega) (by omega), ← slc_append d (by omega) (by omega), slc_all]
  have e2 : d'.toList = slc d 0 a ++ (slc d' a b ++ slc d b d.size) := by
    have hs := P.1
    rw [← slc_all, slc_append d' (show 0 ≤ a by omega) (by omega), slc_append d' (show a ≤ b by omega) (by omega)]
    congr 1
    · exact slc_congr (by omega) (by omega) rfl fun i hi => P.2.1 _ (.inl (by omega))
    congr 1
    · exact slc_congr (by omega) (by omega) (by omega) fun i hi => P.2.1 _ (.inr (by omega))
  rw [e1, e2] at F
  exact fp_cancel F

/-! ### Runs -/
theorem fp_seg (d : Array α) {a b : Nat} (hab : a ≤ b) (hb : b ≤ d.size) : FP key d.toList (segA key d a b).toList := by
  have hs := seg_size (key := key) d hab hb
  have e1 : d.toList = slc d 0 a ++ (slc d a b ++ slc d b d.size) := by rw [← slc_append d (by omega) (by omega), ← slc_append d (by omega) (by omega), slc_all]
  have e2 : (segA key d a b).toList = slc d 0 a ++ (ss key (slc d a b) ++ slc d b d.size) := by
    rw [← slc_all, slc_append _ (show 0 ≤ a by omega) (by omega), slc_append _ (show a ≤ b by omega) (by omega), seg_slc d hab hb]
    congr 1
    · exact slc_congr (by omega) (by omega) rfl fun i hi => seg_out d hab hb (.inl (by omega))
    congr 1
    exact slc_congr (by omega) (by omega) (by omega) fun i hi => seg_out d hab hb (.inr (by omega))
  rw [e1, e2]
  exact (FP.refl _).append ((ss_fp _).append (.refl _))

theorem dvd_gap {w s a : Nat} (h1 : w ∣ s) (h2 : w ∣ a) (h : s < a) : s + w ≤ a := by
  have := Nat.le_of_dvd (by omega) (Nat.dvd_sub h2 h1)
  omega

variable (key)
/-- The runs that begin ahead of a are sorted. -/
def Runs (w a : Nat) (d : Array α) : Prop := ∀ s, w ∣ s → s < a → Srt key (slc d s (min (s + w) d.size))
variable {key}
omit [Inhabited α] in
theorem Runs.zero {w : Nat} {d : Array α} : Runs key w 0 d := fun s _ h => absurd h (Nat.not_lt_zero s)
theorem Runs.step {w a : Nat} {d : Array α} (h : Runs key w a d) (hw : 0 < w) (ha : w ∣ a) (h2 : a + w ≤ d.size) (h3 : a ≤ d.size) : Runs key w (a + w) (segA key d a (a + w)) := fun s h1 hs => by
  have hz := seg_size (key := key) d (show a ≤ a + w by omega) h2
  rw [hz]
  by_cases e : s = a
  · subst e
    rw [Nat.min_eq_left h2, seg_slc d (by omega) h2]
    exact ss_srt _
  · have hlt : s < a := by
      rcases Nat.lt_or_ge s a with q | q
      · exact q
      · have := dvd_gap ha h1 (by omega); omega
    have hg := dvd_gap h1 ha hlt
    rw [slc_congr (d := d) (a := s) (b := min (s + w) d.size) (by omega) (by omega) rfl fun i hi => seg_out d (by omega) h2 (.inl (by omega))]
    exact h s h1 hlt
theorem Runs.last {w a n : Nat} {d : Array α} (h : Runs key w a d) (hn : d.size = n) (ha : w ∣ a) (h2 : a ≤ n) (h3 : n < a + w) : Runs key w (segA key d a n).size (segA key d a n) := fun s h1 hs => by
  have hz := seg_size (key := key) d h2 (by omega)
  rw [hz] at hs ⊢
  by_cases e : s = a
  · subst e
    rw [Nat.min_eq_right (by omega), hn, seg_slc d h2 (by omega)]
    exact ss_srt _
  · have hlt : s < a := by
      rcases Nat.lt_or_ge s a with q | q
      · exact q
      · have := dvd_gap ha h1 (by omega); omega
    have hg := dvd_gap h1 ha hlt
    rw [slc_congr (d := d) (a := s) (b := min (s + w) d.size) (by omega) (by omega) rfl fun i hi => seg_out d h2 (by omega) (.inl (by omega))]
    exact h s h1 hlt
end Go.AM
