/-
  A level at work: what a step keeps; the plain laws.
-/
import Derived.Test.YtdgjelfeclgolaaF39
namespace Go.Proofs.Ytdgjelfeclgolaa
open Go Go.AM
set_option linter.unusedVariables false
set_option linter.unusedSimpArgs false

structure keeps (i : Nat) (s : TState) : Prop where
  f : okF 64 i s.fair
  r : s.running.length ≤ 6401 * i
  l : s.limit ≤ 9223372036854775807

theorem zero_okF (n m : Nat) : okF n m zeroF := ⟨by simp [zeroF], by simp [zeroF]⟩
theorem okF_lateF {n m : Nat} {f : TFair} (h : okF n m f) (now : Int) : okF n m (lateF f now) := by
  refine ⟨by simpa [lateF] using h.1, fun l hl => ?_⟩
  simp only [lateF, List.mem_map] at hl
  obtain ⟨x, hx, rfl⟩ := hl
  exact ⟨(h.2 x hx).1, Nat.le_trans (List.length_filter_le _ _) (h.2 x hx).2⟩

theorem fits_le {s : TState} {w : Int} (h : (fits s w).2 = true) (hk : s.level.kind ≠ 1) : runsL s.running + sea (seated ⟨0, w, 0, 0, 0⟩ (fits s w).1) ≤ s.limit := by
  have hw := wid_le w
  unfold fits at h ⊢
  rw [if_neg hk] at h ⊢
  split at h
  · cases h
  · rename_i h1
    rw [if_neg h1]
    split at h
    · rename_i h2
      have : s.running = [] := List.eq_nil_of_length_eq_zero h2
      rw [if_pos h2, this]
      simp only [runsL, sea, seated, List.map_nil, List.sum_nil]
      omega
    · rename_i h2
      rw [if_neg h2]
      split at h
      · rename_i h3
        rw [if_pos h3]
        simp only [sea, seated]
        omega
      · cases h
theorem sea_seats (t : TTicket) (n : Int) : sea (seated t n) = min (max n 0) 16 := rfl
theorem runsL_app (l : List TTicket) (t : TTicket) : runsL (l ++ [t]) = runsL l + sea t := by simp [runsL]
theorem runsL_eraseIdx (l : List TTicket) (i : Nat) : runsL (l.eraseIdx i) ≤ runsL l := by
  have key : ∀ (l : List TTicket) (i : Nat), runsL (l.eraseIdx i) ≤ runsL l := by
    intro l
    induction l with
    | nil => intro i; simp
    | cons a l ih =>
      intro i
      have h0 : 0 ≤ sea a := by unfold sea; omega
      cases i with
      | zero => simp only [List.eraseIdx_zero, List.tail_cons, runsL, List.map_cons, List.sum_cons]; unfold runsL at *; omega
      | succ i =>
        have := ih i
        simp only [List.eraseIdx_cons_succ, runsL, List.map_cons, List.sum_cons] at this ⊢
        omega
  exact key l i

/-- What Dispatch keeps. -/
theorem ldispN_keep : ∀ (n : Nat) (s : TState) (out : List TTicket) (m : Nat), okF 64 m s.fair → okF 64 m (ldispN n s out).1.fair ∧ (ldispN n s out).1.running.length ≤ s.running.length + n ∧ (ldispN n s out).1.limit = s.limit ∧ (ldispN n s out).1.level = s.level
  | 0, s, out, m, h => ⟨h, Nat.le_refl _, rfl, rfl⟩
  | n + 1, s, out, m, h => by
    rw [ldispN]
    split
    · obtain ⟨h1, h2, h3, h4⟩ := ldispN_keep n (withFair (withRun s (s.running ++ [seated (ftake s.fair).2.1 (fits s (ftake s.fair).2.1.width).1])) (ftake s.fair).1) (out ++ [seated (ftake s.fair).2.1 (fits s (ftake s.fair).2.1.width).1]) m (okF_take h)
      refine ⟨h1, ?_, h3, h4⟩
      simp only [withFair, withRun, List.length_append, List.length_cons, List.length_nil] at h2 ⊢
      omega
    · exact ⟨h, by simp only []; omega, rfl, rfl⟩
theorem ldispN_limit : ∀ (n : Nat) (s : TState) (out : List TTicket), (ldispN n s out).1.limit = s.limit
  | 0, s, out => rfl
  | n + 1, s, out => by
    rw [ldispN]
    split
    · exact ldispN_limit n _ _
    · rfl
theorem ldispN_holds : ∀ (n : Nat) (s : TState) (out : List TTicket), s.level.kind ≠ 1 → runsL (ldispN n s out).1.running ≤ max s.limit (runsL s.running)
  | 0, s, out, h => by simp only [ldispN]; omega
  | n + 1, s, out, h => by
    rw [ldispN]
    split
    · rename_i h1
      have h2 := ldispN_holds n (withFair (withRun s (s.running ++ [seated (ftake s.fair).2.1 (fits s (ftake s.fair).2.1.width).1])) (ftake s.fair).1) (out ++ [seated (ftake s.fair).2.1 (fits s (ftake s.fair).2.1.width).1]) h
      have h3 := fits_le h1.2 h
      rw [sea_seats] at h3
      simp only [withFair, withRun, runsL_app, sea_seats] at h2 ⊢
      omega
    · simp only []; omega
theorem ldispN_ends : ∀ (n : Nat) (s : TState) (out : List TTicket), tot s.fair ≤ n → (ftake (ldispN n s out).1.fair).2.2 = true → (fits (ldispN n s out).1 (ftake (ldispN n s out).1.fair).2.1.width).2 = false
  | 0, s, out, h, h2 => by
    rw [ldispN] at h2
    have := tot_take h2
    simp only [] at this
    omega
  | n + 1, s, out, h, h2 => by
    rw [ldispN] at h2 ⊢
    split at h2
    · rename_i h1
      rw [if_pos h1]
      refine ldispN_ends n _ _ ?_ h2
      have := tot_take h1.1
      simp only [withFair]
      omega
    · rename_i h1
      rw [if_neg h1]
      cases hq : (fits s (ftake s.fair).2.1.width).2 with
      | false => rfl
      | true => exact absurd ⟨h2, hq⟩ h1

theorem stepN_keep {i : Nat} {s : TState} {o : TOp23} (h : keeps i s) (hi : i ≤ 100) (hn : o.n ≤ 9223372036854775807) : keeps (i + 1) (stepN s o).1 := by
  obtain ⟨hf, hr, hl⟩ := h
  have hf1 : okF 64 (i + 1) s.fair := hf.mono (Nat.le_refl _) (by omega)
  have h0 : keeps (i + 1) s := ⟨hf1, by omega, hl⟩
  unfold stepN
  split
  · split
    · rename_i he
      unfold larrive at he ⊢
      split at he
      · exact absurd he (by decide)
      · rename_i g1
        rw [if_neg g1]
        split at he
        · rename_i g2
          rw [if_pos g2]
          split at he
          · rename_i g3
            rw [if_pos g3]
            exact ⟨okF_join hf _ _, by simp only [withFair]; omega, hl⟩
          · rename_i g3
            exact absurd he g3
        · rename_i g2
          rw [if_neg g2]
          split at he
          · exact absurd he (by decide)
          · rename_i g3
            rw [if_neg g3]
            split at he
            · rename_i g4
              rw [if_pos g4]
              exact ⟨hf1, by simp only [withRun, List.length_append, List.length_cons, List.length_nil]; omega, hl⟩
            · exact absurd he (by decide)
    · exact h0
  · split
    · obtain ⟨h1, h2, h3, h4⟩ := ldispN_keep (tot s.fair) s [] i hf
      have := tot_le hf
      exact ⟨h1.mono (Nat.le_refl _) (by omega), by unfold ldispatch; omega, by unfold ldispatch; omega⟩
    · split
      · split
        · rename_i he
          unfold ldone at he ⊢
          split at he
          · exact absurd he (by decide)
          · rename_i g1
            rw [if_neg g1]
            exact ⟨hf1, by have := List.length_eraseIdx_le s.running (idx (fun t => t.iD == o.n) s.running).toNat; simp only [withRun]; omega, hl⟩
        · exact h0
      · split
        · split
          · rename_i he
            unfold ldrop at he ⊢
            split at he
            · rename_i g1
              rw [if_pos g1]
              exact ⟨(okF_drop hf _).mono (Nat.le_refl _) (by omega), by simp only [withFair]; omega, hl⟩
            · exact absurd he (by decide)
          · exact h0
        · split
          · refine ⟨?_, by simp only [llate, withFair]; omega, hl⟩
            simp only [llate, withFair]
            split
            · exact hf1
            · exact (okF_lateF hf1 _).trim
          · split
            · exact ⟨hf1, by simp only [wl]; omega, hn⟩
            · refine ⟨?_, by simp only [lturn]; omega, hl⟩
              simp only [lturn]
              split
              · exact okF_shape hf1 (by omega) _ _ _
              · exact okF_shut hf1

theorem lopen_keep (l : TLevel) : keeps 0 (lopen l) := by
  refine ⟨?_, by simp [lopen, noT], by simp [lopen]⟩
  unfold lopen
  simp only []
  split
  · exact okF_new (by omega) _ _ _
  · exact zero_okF _ _

theorem stepN_holds {s : TState} (o : TOp23) (hk : s.level.kind ≠ 1) : runsL (stepN s o).1.running ≤ max (stepN s o).1.limit (runsL s.running) := by
  unfold stepN
  split
  · split
    · rename_i he
      unfold larrive at he ⊢
      split at he
      · exact absurd he (by decide)
      · rename_i g1
        rw [if_neg g1]
        split at he
        · rename_i g2
          rw [if_pos g2]
          split at he
          · rename_i g3
            rw [if_pos g3]
            simp only [withFair]; omega
          · rename_i g3
            exact absurd he g3
        · rename_i g2
          rw [if_neg g2]
          split at he
          · exact absurd he (by decide)
          · rename_i g3
            rw [if_neg g3]
            split at he
            · rename_i g4
              rw [if_pos g4]
              have h3 := fits_le g4 hk
              rw [sea_seats] at h3
              simp only [withRun, runsL_app, sea_seats]
              omega
            · exact absurd he (by decide)
    · simp only []; omega
  · split
    · have h1 := ldispN_holds (tot s.fair) s [] hk
      unfold ldispatch
      have h3 : (ldispN (tot s.fair) s []).1.limit = s.limit := ldispN_limit _ _ _
      omega
    · split
      · split
        · rename_i he
          unfold ldone at he ⊢
          split at he
          · exact absurd he (by decide)
          · rename_i g1
            rw [if_neg g1]
            have := runsL_eraseIdx s.running (idx (fun t => t.iD == o.n) s.running).toNat
            simp only [withRun]; omega
        · simp only []; omega
      · split
        · split
          · rename_i he
            unfold ldrop at he ⊢
            split at he
            · rename_i g1
              rw [if_pos g1]
              simp only [withFair]; omega
            · exact absurd he (by decide)
          · simp only []; omega
        · split
          · simp only [llate, withFair]; omega
          · split
            · simp only [wl]; omega
            · simp only [lturn]; omega

theorem next_take {f : TFair} {k : Nat} {l : TLane} {t : TTicket} {w : List TTicket} (h1 : next f = k) (h3 : l.wait = t :: w) (h4 : laneAt f k = l) : (ftake f).2.2 = true ∧ (ftake f).2.1 = t := by
  rw [ftake, h1, if_neg (by omega), h4, take, h3]
  exact ⟨rfl, rfl⟩
theorem stepN_ends {s : TState} {o : TOp23} (h : d8 o = 2) {k : Nat} {l : TLane} {t : TTicket} {w : List TTicket} (h1 : next (stepN s o).1.fair = k) (h3 : l.wait = t :: w) (h4 : laneAt (stepN s o).1.fair k = l) : (fits (stepN s o).1 t.width).2 = false := by
  have e : stepN s o = ldispatch s := by unfold stepN; rw [if_neg (by omega), if_pos h]
  rw [e] at h1 h4 ⊢
  obtain ⟨g1, g2⟩ := next_take h1 h3 h4
  have : (fits (ldispatch s).1 (ftake (ldispatch s).1.fair).2.1.width).2 = false := ldispN_ends (tot s.fair) s [] (Nat.le_refl _) g1
  rw [g2] at this
  exact this

end Go.Proofs.Ytdgjelfeclgolaa
