/-
  slices.SortStableFunc at a struct: merging, all of it; the blocks; the top; walked. From a template.
-/
import Derived.Test.YtdgjelfeclgolaaT2
namespace Go.Proofs.Ytdgjelfeclgolaa
open Go Go.AM
set_option maxHeartbeats 8000000
set_option maxRecDepth 8000
set_option linter.unusedSimpArgs false
set_option linter.unusedVariables false

section
variable {c : TTicket → TTicket → Int} {key : TTicket → Int}

theorem sym_ok (hc : CmpOk 114 c) (hk : ∀ x y, c x y < 0 ↔ key x < key y) (n : Nat) : ∀ (d : Array TTicket) (a m b : Nat), b - a = n → a < m → m < b → b ≤ d.size → d.size ≤ 4294967296 → Srt key (slc d a m) → Srt key (slc d m b) →
    HCall Try.prog 121 [.ref 0 d.size 0 d.size false d.size, .int .i64 a, .int .i64 m, .int .i64 b, .func (.func 114) [] []] [(0, .arr 5 (rws d.toList))] 1
    (fun r h _ => r = .tuple [] ∧ h = [(0, .arr 5 (rws (segA key d a b).toList))]) := by
  induction n using Nat.strongRecOn with
  | _ n ih =>
  intro d a m b hn0 h1 h2 hb hn hX hY
  by_cases hA : m = a + 1
  · subst hA
    exact symA_ok hc hk d a b h2 hb hn hY
  by_cases hB : b = m + 1
  · subst hB
    exact symB_ok hc hk d a m (by omega) hb hn hX
  have rec0 : ∀ (d' : Array TTicket) (a' m' b' : Nat), b' - a' < n → a' < m' → m' < b' → b' ≤ d.size → d'.size = d.size → Srt key (slc d' a' m') → Srt key (slc d' m' b') →
      FCall Try.prog 121 [.ref 0 d.size 0 d.size false d.size, .int .i64 a', .int .i64 m', .int .i64 b', .func (.func 114) [] []] [(0, .arr 5 (rws d'.toList))] (.tuple []) [(0, .arr 5 (rws (segA key d' a' b').toList))] := by
    intro d' a' m' b' q1 q2 q3 q4 q5 q6 q7
    have q8 := ih (b' - a') q1 d' a' m' b' rfl q2 q3 (by omega) (by omega) q6 q7
    rw [← q5]
    exact FCall.arr q8 0 (by simp [lfA_leaf, lf_ref, lf_int, lf_fn]) (lfA_tup _ _ (by simp)) rfl rfl
  clear ih
  have hl0 := srl d
  obtain ⟨mid, hmid⟩ : ∃ mid, (a + b) / 2 = mid := ⟨_, rfl⟩
  have laws : ∀ s e, a ≤ s → s ≤ m → m ≤ e → e ≤ b → mid + m = s + e → (a < s → e < b → key d[s - 1]! ≤ key d[e]!) → (s < m → m < e → key d[e - 1]! < key d[s]!) → segA key (segA key (rotA d s m e) a mid) mid b = segA key d a b :=
    fun s e q1 q2 q3 q4 q5 q6 q7 => sym_arr q1 q2 q3 q4 hb q5 hX hY q6 q7
  have slc1 : ∀ s e, a ≤ s → s ≤ m → m ≤ e → e ≤ b → mid + m = s + e → slc (rotA d s m e) a mid = slc d a s ++ slc d m e ∧ slc (rotA d s m e) mid b = slc d s m ++ slc d e b ∧ (rotA d s m e).size = d.size :=
    fun s e q1 q2 q3 q4 q5 => ⟨rot_slc1 q1 q2 q3 (by omega) q5, rot_slc2 q2 q3 q4 hb q5, rot_size d q2 q3 (by omega)⟩
  obtain ⟨R, hR⟩ : ∃ R, segA key d a b = R := ⟨_, rfl⟩
  rw [hR] at laws ⊢
  generalize hN : d.size = N at *
  have u0 : (m : Int) - (a : Int) = ((m - a : Nat) : Int) := by omega
  have u1 : (b : Int) - (m : Int) = ((b - m : Nat) : Int) := by omega
  have u2 : (a : Int) + (b : Int) = ((a + b : Nat) : Int) := by omega
  have u3 : IntKind.u64.wrap ((a + b : Nat) : Int) = ((a + b : Nat) : Int) := by rw [IntKind.wrap_u64]; omega
  have u4 := half_nat (a + b)
  rw [hmid] at u4
  have u5 : IntKind.i64.wrap (mid : Int) = (mid : Int) := by rw [IntKind.wrap_i64]; omega
  have u6 : (mid : Int) + (m : Int) = ((mid + m : Nat) : Int) := by omega
  have u7 : ((mid + m : Nat) : Int) - 1 = ((mid + m - 1 : Nat) : Int) := by omega
  obtain ⟨s0, r0, g1, g2, g3, g4, g5⟩ : ∃ s0 r0, a ≤ s0 ∧ s0 ≤ r0 ∧ r0 ≤ m ∧ ((m > mid ∧ s0 = mid + m - b ∧ r0 = mid) ∨ (¬ m > mid ∧ s0 = a ∧ r0 = m)) ∧ mid + m ≤ b + s0 := by
    by_cases h : m > mid
    · exact ⟨mid + m - b, mid, by omega, by omega, by omega, .inl ⟨h, rfl, rfl⟩, by omega⟩
    · exact ⟨a, m, by omega, by omega, by omega, .inr ⟨h, rfl, rfl⟩, by omega⟩
  refine HCall_intro (c := Try.f121.body.getD .skip) Try.func121 rfl (by decide +kernel) (W_start ?_)
  simp only [Try.f121, go_sem]
  have zz1 := u0
  have zz2 := u1
  have zz3 := u2
  have zz4 := u3
  have zz5 := u4
  have zz6 := u5
  have zz7 := u6
  repeat' first
    | refine Z7 ?_
    | refine Zx ?_
    | (refine Ze ?_; clear hK K)
    | refine W_regNe 27 (by decide) fun K hK => ?_
    | refine W_drwRNe 27 (by decide) rfl mixed (by decide +kernel) fun K hK => ?_
    | refine W_drwNe 27 (by decide) mixed (by decide +kernel) fun K hK => ?_
    | (refine Zb ?_ ?_ <;> intro hb <;> first | (simp (disch := omega) only [go_sem, zz1, zz2, zz3, zz4, zz5, zz6, zz7] at hb; done) | (simp (disch := omega) only [go_sem, zz1, zz2, zz3, zz4, zz5, zz6, zz7] at hb; try omega) | try omega)
    | (refine Zl ?_; intro bn hnil; (try simp (disch := omega) only [go_sem, zz1, zz2, zz3, zz4, zz5, zz6, zz7] at hnil); dsimp only [putT, List.set_cons_succ, List.set_cons_zero])
  refine W_cutH (fun (_ : Unit) => [none, none, none, none, none, none, none, none, none, none, none, none, none, none, none, none, none, none, none, none, some (.int .i64 s0), some (.int .i64 r0), none, none, none, none, none, none, none, none, none, none, none, none, none, none, none, none, none, none, none, none, none, none, none, none, none, none, none, none, none, none, none, none, none, none, none, none, none, none, none, none, none, none, none, none, none, none, none, none, none, none, none, none, none, none, none, none, none, none, none, none, none, none, none, none, none, none, none, none, none, none, none, none, none, none, none, none, none, none, none, none, none, none, none, none, none, none, none, none, none, none, none, none, none, none, none, none, none, none, none, none, none, none, none, none, none, none, none, none, none, none, none, none, none, none, none, none, some .junk, some .junk, some .junk, some .junk, some .junk, some .junk, some .junk, some .junk, some .junk]) (fun _ => [(0, .arr 5 (rws d.toList))]) (fun _ => True) ?_ ?_
  · rcases g4 with ⟨g4, rfl, rfl⟩ | ⟨g4, rfl, rfl⟩
    · have v1 : ((r0 + m : Nat) : Int) - (b : Int) = ((r0 + m - b : Nat) : Int) := by omega
      have zz1 := v1
      repeat' first
        | refine Z1 ?_
        | refine Zx ?_
        | (refine Ze ?_; clear hK K)
        | refine W_reg fun K hK => ?_
        | refine W_drwR rfl mixed (by decide +kernel) fun K hK => ?_
        | refine W_drw mixed (by decide +kernel) fun K hK => ?_
        | (refine Zb ?_ ?_ <;> intro hb <;> first | (simp (disch := omega) only [go_sem, zz1] at hb; done) | (simp (disch := omega) only [go_sem, zz1] at hb; try omega) | try omega)
        | (refine Zl ?_; intro bn hnil; (try simp (disch := omega) only [go_sem, zz1] at hnil); dsimp only [putT, List.set_cons_succ, List.set_cons_zero])
      all_goals exact N_cut () trivial (by exact weak_mk wkD wkH wkN wkM (by omega))
    · repeat' first
        | refine Z0 ?_
        | refine Zx ?_
        | (refine Ze ?_; clear hK K)
        | refine W_reg fun K hK => ?_
        | refine W_drwR rfl mixed (by decide +kernel) fun K hK => ?_
        | refine W_drw mixed (by decide +kernel) fun K hK => ?_
        | (refine Zb ?_ ?_ <;> intro hb <;> first | (simp (disch := omega) only [go_sem] at hb; done) | (simp (disch := omega) only [go_sem] at hb; try omega) | try omega)
        | (refine Zl ?_; intro bn hnil; (try simp (disch := omega) only [go_sem] at hnil); dsimp only [putT, List.set_cons_succ, List.set_cons_zero])
      all_goals exact N_cut () trivial (by exact weak_mk wkD wkH wkN wkM (by omega))
  rintro ⟨⟩ _
  simp only [msk_none, msk_some, msk_nil]
  have zz1 := u7
  repeat' first
    | refine Z1 ?_
    | refine Zx ?_
    | (refine Ze ?_; clear hK K)
    | refine W_reg fun K hK => ?_
    | refine W_drwR rfl mixed (by decide +kernel) fun K hK => ?_
    | refine W_drw mixed (by decide +kernel) fun K hK => ?_
    | (refine Zb ?_ ?_ <;> intro hb <;> first | (simp (disch := omega) only [go_sem, zz1] at hb; done) | (simp (disch := omega) only [go_sem, zz1] at hb; try omega) | try omega)
    | (refine Zl ?_; intro bn hnil; (try simp (disch := omega) only [go_sem, zz1] at hnil); dsimp only [putT, List.set_cons_succ, List.set_cons_zero])
  refine W_foldM (fun (q : Nat × Nat) => [none, none, none, none, none, none, none, none, none, none, none, none, none, none, none, none, none, none, none, none, some (.int .i64 q.1), some (.int .i64 q.2), none, some .junk, none, none, none, none, none, none, none, none, none, none, none, none, none, none, none, none, none, none, none, none, none, none, none, none, none, none, none, none, none, none, none, none, none, none, none, none, none, none, none, none, none, none, none, none, none, none, none, none, none, none, none, none, none, none, none, none, none, none, none, none, none, none, none, none, none, none, none, none, none, none, none, none, none, none, none, none, none, none, none, none, none, none, none, none, none, none, none, none, none, none, none, none, none, none, none, none, none, none, none, none, none, none, none, none, none, none, none, none, none, none, none, none, none, none, none, none, none, none, none, none, none, none, none, none, none, some .junk, some .junk, some .junk, some .junk, some .junk, some .junk, some .junk, some .junk, some .junk, some .junk, some .junk, some .junk, some .junk, some .junk, some .junk, some .junk, some .junk, some .junk, some .junk, some .junk, some .junk, some .junk, some .junk, some .junk, some .junk, some .junk]) (fun _ => [(0, .arr 5 (rws d.toList))])
    (fun q => s0 ≤ q.1 ∧ q.1 ≤ q.2 ∧ q.2 ≤ r0 ∧ (q.1 = s0 ∨ key d[q.1 - 1]! ≤ key d[mid + m - q.1]!) ∧ (q.2 = r0 ∨ key d[mid + m - q.2 - 1]! < key d[q.2]!)) (fun q => q.2 - q.1) (s0, r0) ⟨Nat.le_refl _, g2, Nat.le_refl _, .inl rfl, .inl rfl⟩ (by exact weak_mk wkD wkH wkN wkM (by omega)) ?_
  rintro ⟨s, r⟩ ⟨k1, k2, k3, k4, k5⟩
  simp only [] at k1 k2 k3 k4 k5
  simp only [msk_none, msk_some, msk_nil]
  by_cases hsr : s < r
  · obtain ⟨h, hh⟩ : ∃ h, (s + r) / 2 = h := ⟨_, rfl⟩
    have v1 : (s : Int) + (r : Int) = ((s + r : Nat) : Int) := by omega
    have v2 : IntKind.u64.wrap ((s + r : Nat) : Int) = ((s + r : Nat) : Int) := by rw [IntKind.wrap_u64]; omega
    have v3 := half_nat (s + r)
    rw [hh] at v3
    have v4 : IntKind.i64.wrap (h : Int) = (h : Int) := by rw [IntKind.wrap_i64]; omega
    obtain ⟨p, hp⟩ : ∃ p, mid + m - 1 - h = p := ⟨_, rfl⟩
    have v5 : ((mid + m - 1 : Nat) : Int) - (h : Int) = (p : Int) := by omega
    have y1 := sget d (i := p) (by omega)
    have y2 := sget d (i := h) (by omega)
    have c1 := hc d[p]! d[h]!
    have hk1 := hk d[p]! d[h]!
    by_cases hlt : c d[p]! d[h]! < 0
    · have zz1 := y1
      have zz2 := y2
      have zz3 := hl0
      have zz4 := v1
      have zz5 := v2
      have zz6 := v3
      have zz7 := v4
      have zz8 := v5
      repeat' first
        | refine Z8 ?_
        | refine Zx ?_
        | refine Zc c1 ?_
        | (refine Ze ?_; clear hK K)
        | refine W_reg fun K hK => ?_
        | refine W_drwR rfl mixed (by decide +kernel) fun K hK => ?_
        | refine W_drw mixed (by decide +kernel) fun K hK => ?_
        | (refine Zb ?_ ?_ <;> intro hb <;> first | (simp (disch := omega) only [go_sem, zz1, zz2, zz3, zz4, zz5, zz6, zz7, zz8] at hb; done) | (simp (disch := omega) only [go_sem, zz1, zz2, zz3, zz4, zz5, zz6, zz7, zz8] at hb; try omega) | try omega)
        | (refine Zl ?_; intro bn hnil; (try simp (disch := omega) only [go_sem, zz1, zz2, zz3, zz4, zz5, zz6, zz7, zz8] at hnil); dsimp only [putT, List.set_cons_succ, List.set_cons_zero])
      exact L_next ⟨(s, h), by simp only []; omega, ⟨k1, by simp only []; omega, by simp only []; omega, k4, .inr (by rw [show mid + m - h - 1 = p by omega]; exact hk1.1 hlt)⟩, (by exact weak_mk wkD wkH wkN wkM (by omega))⟩
    · have w1 : (h : Int) + 1 = ((h + 1 : Nat) : Int) := by omega
      have zz1 := y1
      have zz2 := y2
      have zz3 := hl0
      have zz4 := v1
      have zz5 := v2
      have zz6 := v3
      have zz7 := v4
      have zz8 := v5
      have zz9 := w1
      repeat' first
        | refine Z9 ?_
        | refine Zx ?_
        | refine Zc c1 ?_
        | (refine Ze ?_; clear hK K)
        | refine W_reg fun K hK => ?_
        | refine W_drwR rfl mixed (by decide +kernel) fun K hK => ?_
        | refine W_drw mixed (by decide +kernel) fun K hK => ?_
        | (refine Zb ?_ ?_ <;> intro hb <;> first | (simp (disch := omega) only [go_sem, zz1, zz2, zz3, zz4, zz5, zz6, zz7, zz8, zz9] at hb; done) | (simp (disch := omega) only [go_sem, zz1, zz2, zz3, zz4, zz5, zz6, zz7, zz8, zz9] at hb; try omega) | try omega)
        | (refine Zl ?_; intro bn hnil; (try simp (disch := omega) only [go_sem, zz1, zz2, zz3, zz4, zz5, zz6, zz7, zz8, zz9] at hnil); dsimp only [putT, List.set_cons_succ, List.set_cons_zero])
      exact L_next ⟨(h + 1, r), by simp only []; omega, ⟨by simp only []; omega, by simp only []; omega, k3, .inr (by rw [show mid + m - (h + 1) = p by omega, Nat.add_sub_cancel]; have := fun q => hlt (hk1.2 q); omega), k5⟩, (by exact weak_mk wkD wkH wkN wkM (by omega))⟩
  · have e : r = s := by omega
    subst e
    obtain ⟨e, he⟩ : ∃ e, mid + m - r = e := ⟨_, rfl⟩
    rw [he] at k4 k5
    have v1 : ((mid + m : Nat) : Int) - (r : Int) = (e : Int) := by omega
    obtain ⟨z1, z2, z3⟩ := slc1 r e (by omega) (by omega) (by omega) (by omega) (by omega)
    have hfin := laws r e (by omega) (by omega) (by omega) (by omega) (by omega) (fun q1 q2 => by
      rcases k4 with k4 | k4
      · exact absurd q1 (by omega)
      · exact k4) (fun q1 q2 => by
      rcases k5 with k5 | k5
      · exact absurd q2 (by omega)
      · exact k5)
    have hr1 : r < m ∧ m < e → FCall Try.prog 122 [.ref 0 N 0 N false N, .int .i64 r, .int .i64 m, .int .i64 e, .func (.func 114) [] []] [(0, .arr 5 (rws d.toList))] (.tuple []) [(0, .arr 5 (rws (rotA d r m e).toList))] :=
      fun q => rot_F d N r m e hN q.1 q.2 (by omega) hn 0
    have hr2 : ¬ (r < m ∧ m < e) → rotA d r m e = d := fun q => rot_self (by omega) (by omega) (by omega) (by omega)
    have sX1 : Srt key (slc d a r) := srt_sub (by omega) hX (Nat.le_refl _) (by omega)
    have sY1 : Srt key (slc d m e) := srt_sub (by omega) hY (Nat.le_refl _) (by omega)
    have sX2 : Srt key (slc d r m) := srt_sub (by omega) hX (by omega) (Nat.le_refl _)
    have sY2 : Srt key (slc d e b) := srt_sub (by omega) hY (by omega) (Nat.le_refl _)
    generalize rotA d r m e = d1 at *
    have w1 : slc d1 a r = slc d a r ∧ slc d1 r mid = slc d m e := by
      have q := z1
      rw [slc_append d1 (show a ≤ r by omega) (show r ≤ mid by omega)] at q
      exact List.append_inj q (by rw [slc_len d1 (by omega), slc_len d (by omega)])
    have w2 : slc d1 mid e = slc d r m ∧ slc d1 e b = slc d e b := by
      have q := z2
      rw [slc_append d1 (show mid ≤ e by omega) (show e ≤ b by omega)] at q
      exact List.append_inj q (by rw [slc_len d1 (by omega), slc_len d (by omega)]; omega)
    have zz1 := v1
    repeat' first
      | refine Z1 ?_
      | refine Zx ?_
      | (refine Ze ?_; clear hK K)
      | refine W_regNe 39 (by decide) fun K hK => ?_
      | refine W_drwRNe 39 (by decide) rfl mixed (by decide +kernel) fun K hK => ?_
      | refine W_drwNe 39 (by decide) mixed (by decide +kernel) fun K hK => ?_
      | (refine Zb ?_ ?_ <;> intro hb <;> first | (simp (disch := omega) only [go_sem, zz1] at hb; done) | (simp (disch := omega) only [go_sem, zz1] at hb; try omega) | try omega)
      | (refine Zl ?_; intro bn hnil; (try simp (disch := omega) only [go_sem, zz1] at hnil); dsimp only [putT, List.set_cons_succ, List.set_cons_zero])
    refine W_cutH (fun (_ : Unit) => [none, none, none, none, none, none, none, none, none, none, none, none, none, none, none, none, none, none, none, none, none, none, none, none, none, none, none, none, none, none, none, none, none, none, none, none, none, none, none, none, none, none, none, none, none, none, none, none, none, none, none, none, none, none, none, none, none, none, none, none, none, none, none, none, none, none, none, none, none, none, none, none, none, none, none, none, none, none, none, none, none, none, none, none, none, none, none, none, none, none, none, none, none, none, none, none, none, none, none, none, none, none, none, none, none, none, none, none, none, none, none, none, none, none, none, none, none, none, none, none, none, none, none, none, none, none, none, none, none, none, none, none, none, none, none, none, none, none, none, none, none, none, none, none, none, none, none, none, none, none, none, none, none, none, none, none, none, none, none, none, none, none, none, none, none, none, none, none, none, none, none, none, none, none, none, none, none, none, some .junk, some .junk, some .junk, some .junk, some .junk, some .junk, some .junk, some .junk, some .junk, some .junk, some .junk, some .junk, some .junk, some .junk]) (fun _ => [(0, .arr 5 (rws d1.toList))]) (fun _ => True) ?_ ?_
    · by_cases q : r < m ∧ m < e
      · have c1 := hr1 q
        repeat' first
          | refine Z0 ?_
          | refine Zx ?_
          | refine Zfc c1 ?_
          | (refine Ze ?_; clear hK K)
          | refine W_reg fun K hK => ?_
          | refine W_drwR rfl mixed (by decide +kernel) fun K hK => ?_
          | refine W_drw mixed (by decide +kernel) fun K hK => ?_
          | (refine Zb ?_ ?_ <;> intro hb <;> first | (simp (disch := omega) only [go_sem] at hb; done) | (simp (disch := omega) only [go_sem] at hb; try omega) | try omega)
          | (refine Zl ?_; intro bn hnil; (try simp (disch := omega) only [go_sem] at hnil); dsimp only [putT, List.set_cons_succ, List.set_cons_zero])
        all_goals exact N_cut () trivial (by exact weak_mk wkD wkH wkN wkM (by omega))
      · have c1 := hr2 q
        subst c1
        by_cases q1 : r < m
        · repeat' first
            | refine Z0 ?_
            | refine Zx ?_
            | (refine Ze ?_; clear hK K)
            | refine W_reg fun K hK => ?_
            | refine W_drwR rfl mixed (by decide +kernel) fun K hK => ?_
            | refine W_drw mixed (by decide +kernel) fun K hK => ?_
            | (refine Zb ?_ ?_ <;> intro hb <;> first | (simp (disch := omega) only [go_sem] at hb; done) | (simp (disch := omega) only [go_sem] at hb; try omega) | try omega)
            | (refine Zl ?_; intro bn hnil; (try simp (disch := omega) only [go_sem] at hnil); dsimp only [putT, List.set_cons_succ, List.set_cons_zero])
          all_goals exact N_cut () trivial (by exact weak_mk wkD wkH wkN wkM (by omega))
        · repeat' first
            | refine Z0 ?_
            | refine Zx ?_
            | (refine Ze ?_; clear hK K)
            | refine W_reg fun K hK => ?_
            | refine W_drwR rfl mixed (by decide +kernel) fun K hK => ?_
            | refine W_drw mixed (by decide +kernel) fun K hK => ?_
            | (refine Zb ?_ ?_ <;> intro hb <;> first | (simp (disch := omega) only [go_sem] at hb; done) | (simp (disch := omega) only [go_sem] at hb; try omega) | try omega)
            | (refine Zl ?_; intro bn hnil; (try simp (disch := omega) only [go_sem] at hnil); dsimp only [putT, List.set_cons_succ, List.set_cons_zero])
          all_goals exact N_cut () trivial (by exact weak_mk wkD wkH wkN wkM (by omega))
    rintro ⟨⟩ _
    simp only [msk_none, msk_some, msk_nil]
    have hs1 : d1.size = N := z3
    have hseg1 := seg_size (key := key) d1 (show a ≤ mid by omega) (by omega)
    have hd2 : ∃ d2, segA key d1 a mid = d2 := ⟨_, rfl⟩
    obtain ⟨d2, hd2⟩ := hd2
    have t1 : slc d2 mid b = slc d1 mid b := by
      rw [← hd2]
      exact slc_congr (by omega) (by omega) rfl fun i hi => seg_out _ (by omega) (by omega) (.inr (by omega))
    have hs2 : d2.size = N := by rw [← hd2, hseg1]; exact hs1
    rw [hd2] at hfin hseg1
    repeat' first
      | refine Z0 ?_
      | refine Zx ?_
      | (refine Ze ?_; clear hK K)
      | refine W_regNe 41 (by decide) fun K hK => ?_
      | refine W_drwRNe 41 (by decide) rfl mixed (by decide +kernel) fun K hK => ?_
      | refine W_drwNe 41 (by decide) mixed (by decide +kernel) fun K hK => ?_
      | (refine Zb ?_ ?_ <;> intro hb <;> first | (simp (disch := omega) only [go_sem] at hb; done) | (simp (disch := omega) only [go_sem] at hb; try omega) | try omega)
      | (refine Zl ?_; intro bn hnil; (try simp (disch := omega) only [go_sem] at hnil); dsimp only [putT, List.set_cons_succ, List.set_cons_zero])
    refine W_cutH (fun (_ : Unit) => [none, none, none, none, none, none, none, none, none, none, none, none, none, none, none, none, none, none, none, none, none, none, none, none, none, none, none, none, none, none, none, none, none, none, none, none, none, none, none, none, none, none, none, none, none, none, none, none, none, none, none, none, none, none, none, none, none, none, none, none, none, none, none, none, none, none, none, none, none, none, none, none, none, none, none, none, none, none, none, none, none, none, none, none, none, none, none, none, none, none, none, none, none, none, none, none, none, none, none, none, none, none, none, none, none, none, none, none, none, none, none, none, none, none, none, none, none, none, none, none, none, none, none, none, none, none, none, none, none, none, none, none, none, none, none, none, none, none, none, none, none, none, none, none, none, none, none, none, none, none, none, none, none, none, none, none, none, none, none, none, none, none, none, none, none, none, none, none, none, none, none, none, none, none, none, none, none, none, none, none, none, none, none, none, none, none, none, none, none, none, none, none, some .junk, some .junk, some .junk, some .junk, some .junk, some .junk, some .junk, some .junk, some .junk, some .junk, some .junk, some .junk, some .junk, some .junk]) (fun _ => [(0, .arr 5 (rws d2.toList))]) (fun _ => True) ?_ ?_
    · by_cases q : a < r ∧ r < mid
      · have c1 := rec0 d1 a r mid (by omega) q.1 q.2 (by omega) hs1 (by rw [w1.1]; exact sX1) (by rw [w1.2]; exact sY1)
        rw [hd2] at c1
        repeat' first
          | refine Z0 ?_
          | refine Zx ?_
          | refine Zfc c1 ?_
          | (refine Ze ?_; clear hK K)
          | refine W_reg fun K hK => ?_
          | refine W_drwR rfl mixed (by decide +kernel) fun K hK => ?_
          | refine W_drw mixed (by decide +kernel) fun K hK => ?_
          | (refine Zb ?_ ?_ <;> intro hb <;> first | (simp (disch := omega) only [go_sem] at hb; done) | (simp (disch := omega) only [go_sem] at hb; try omega) | try omega)
          | (refine Zl ?_; intro bn hnil; (try simp (disch := omega) only [go_sem] at hnil); dsimp only [putT, List.set_cons_succ, List.set_cons_zero])
        all_goals exact N_cut () trivial (by exact weak_mk wkD wkH wkN wkM (by omega))
      · have c1 : d2 = d1 := by
          rw [← hd2]
          refine seg_self (by omega) (by omega) ?_
          rw [z1]
          by_cases q1 : a < r
          · have : e = m := by omega
            subst this
            rw [slc_nil, List.append_nil]; exact sX1
          · have : r = a := by omega
            subst this
            rw [slc_nil, List.nil_append]; exact sY1
        subst c1
        by_cases q1 : a < r
        · repeat' first
            | refine Z0 ?_
            | refine Zx ?_
            | (refine Ze ?_; clear hK K)
            | refine W_reg fun K hK => ?_
            | refine W_drwR rfl mixed (by decide +kernel) fun K hK => ?_
            | refine W_drw mixed (by decide +kernel) fun K hK => ?_
            | (refine Zb ?_ ?_ <;> intro hb <;> first | (simp (disch := omega) only [go_sem] at hb; done) | (simp (disch := omega) only [go_sem] at hb; try omega) | try omega)
            | (refine Zl ?_; intro bn hnil; (try simp (disch := omega) only [go_sem] at hnil); dsimp only [putT, List.set_cons_succ, List.set_cons_zero])
          all_goals exact N_cut () trivial (by exact weak_mk wkD wkH wkN wkM (by omega))
        · repeat' first
            | refine Z0 ?_
            | refine Zx ?_
            | (refine Ze ?_; clear hK K)
            | refine W_reg fun K hK => ?_
            | refine W_drwR rfl mixed (by decide +kernel) fun K hK => ?_
            | refine W_drw mixed (by decide +kernel) fun K hK => ?_
            | (refine Zb ?_ ?_ <;> intro hb <;> first | (simp (disch := omega) only [go_sem] at hb; done) | (simp (disch := omega) only [go_sem] at hb; try omega) | try omega)
            | (refine Zl ?_; intro bn hnil; (try simp (disch := omega) only [go_sem] at hnil); dsimp only [putT, List.set_cons_succ, List.set_cons_zero])
          all_goals exact N_cut () trivial (by exact weak_mk wkD wkH wkN wkM (by omega))
    rintro ⟨⟩ _
    simp only [msk_none, msk_some, msk_nil]
    by_cases q : mid < e ∧ e < b
    · have c1 := rec0 d2 mid e b (by omega) q.1 q.2 (by omega) hs2 (by
        have t2 : slc d2 mid e = slc d r m := by
          have q := t1
          rw [slc_append d2 (show mid ≤ e by omega) (show e ≤ b by omega), slc_append d1 (show mid ≤ e by omega) (show e ≤ b by omega)] at q
          rw [(List.append_inj q (by rw [slc_len d2 (by omega), slc_len d1 (by omega)])).1, w2.1]
        rw [t2]; exact sX2) (by
        have t2 : slc d2 e b = slc d e b := by
          have q := t1
          rw [slc_append d2 (show mid ≤ e by omega) (show e ≤ b by omega), slc_append d1 (show mid ≤ e by omega) (show e ≤ b by omega)] at q
          rw [(List.append_inj q (by rw [slc_len d2 (by omega), slc_len d1 (by omega)])).2, w2.2]
        rw [t2]; exact sY2)
      rw [hfin] at c1
      repeat' first
        | refine Z0 ?_
        | refine Zx ?_
        | refine Zfc c1 ?_
        | (refine Ze ?_; clear hK K)
        | refine W_reg fun K hK => ?_
        | refine W_drwR rfl mixed (by decide +kernel) fun K hK => ?_
        | refine W_drw mixed (by decide +kernel) fun K hK => ?_
        | (refine Zb ?_ ?_ <;> intro hb <;> first | (simp (disch := omega) only [go_sem] at hb; done) | (simp (disch := omega) only [go_sem] at hb; try omega) | try omega)
        | (refine Zl ?_; intro bn hnil; (try simp (disch := omega) only [go_sem] at hnil); dsimp only [putT, List.set_cons_succ, List.set_cons_zero])
      all_goals exact Zrf
    · have c1 : R = d2 := by
        rw [← hfin]
        refine seg_self (by omega) (by omega) ?_
        rw [t1, z2]
        by_cases q1 : mid < e
        · have : e = b := by omega
          subst this
          rw [slc_nil, List.append_nil]; exact sX2
        · have : r = m := by omega
          subst this
          rw [slc_nil, List.nil_append]; exact sY2
      subst c1
      by_cases q1 : mid < e
      · repeat' first
          | refine Z0 ?_
          | refine Zx ?_
          | (refine Ze ?_; clear hK K)
          | refine W_reg fun K hK => ?_
          | refine W_drwR rfl mixed (by decide +kernel) fun K hK => ?_
          | refine W_drw mixed (by decide +kernel) fun K hK => ?_
          | (refine Zb ?_ ?_ <;> intro hb <;> first | (simp (disch := omega) only [go_sem] at hb; done) | (simp (disch := omega) only [go_sem] at hb; try omega) | try omega)
          | (refine Zl ?_; intro bn hnil; (try simp (disch := omega) only [go_sem] at hnil); dsimp only [putT, List.set_cons_succ, List.set_cons_zero])
        all_goals exact Zrf
      · repeat' first
          | refine Z0 ?_
          | refine Zx ?_
          | (refine Ze ?_; clear hK K)
          | refine W_reg fun K hK => ?_
          | refine W_drwR rfl mixed (by decide +kernel) fun K hK => ?_
          | refine W_drw mixed (by decide +kernel) fun K hK => ?_
          | (refine Zb ?_ ?_ <;> intro hb <;> first | (simp (disch := omega) only [go_sem] at hb; done) | (simp (disch := omega) only [go_sem] at hb; try omega) | try omega)
          | (refine Zl ?_; intro bn hnil; (try simp (disch := omega) only [go_sem] at hnil); dsimp only [putT, List.set_cons_succ, List.set_cons_zero])
        all_goals exact Zrf

theorem sym_F (hc : CmpOk 114 c) (hk : ∀ x y, c x y < 0 ↔ key x < key y) (d : Array TTicket) (N a m b : Nat) (hN : d.size = N) (h1 : a < m) (h2 : m < b) (hb : b ≤ N) (hn : N ≤ 4294967296) (hX : Srt key (slc d a m)) (hY : Srt key (slc d m b)) (A : Nat) :
    FCall Try.prog 121 [.ref A N 0 N false N, .int .i64 a, .int .i64 m, .int .i64 b, .func (.func 114) [] []] [(A, .arr 5 (rws d.toList))] (.tuple []) [(A, .arr 5 (rws (segA key d a b).toList))] := by
  subst hN
  exact FCall.arr (sym_ok hc hk _ d a m b rfl h1 h2 hb hn hX hY) A (by simp [lfA_leaf, lf_ref, lf_int, lf_fn]) (lfA_tup _ _ (by simp)) rfl rfl

end
end Go.Proofs.Ytdgjelfeclgolaa
