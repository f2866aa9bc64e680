/-
  Lanes that take turns: the law FairAll; walked.
-/
import Derived.Test.YtdgjelfeclgolaaF13
namespace Go.Proofs.Ytdgjelfeclgolaa
open Go Go.AM
set_option maxHeartbeats 8000000
set_option maxRecDepth 8000
set_option linter.unusedSimpArgs false
set_option linter.unusedVariables false

theorem awake22_ok : PCall Try.prog 36 [] (· = .bool true) := by
  have c1 := fnew_ok 2 10 5
  rw [show fnew 2 10 5 = (⟨0, 10, 5, 2, [zeroL, zeroL]⟩, 0) by decide] at c1
  have c2 := fjoin_ok ⟨0, 10, 5, 2, [zeroL, zeroL]⟩ [1] ⟨7, 3, 0, 0, 0⟩ ⟨by simp, by simp [zeroL]⟩ (by unfold maxLen; decide)
  rw [show fjoin ⟨0, 10, 5, 2, [zeroL, zeroL]⟩ [1] ⟨7, 3, 0, 0, 0⟩ = (⟨0, 10, 5, 2, [zeroL, ⟨0, [⟨7, 3, 0, 0, 0⟩]⟩]⟩, 1, 0) by decide] at c2
  have c3 := ftake_ok ⟨0, 10, 5, 2, [zeroL, ⟨0, [⟨7, 3, 0, 0, 0⟩]⟩]⟩ ⟨by simp, by simp [zeroL]⟩
  rw [show ftake ⟨0, 10, 5, 2, [zeroL, ⟨0, [⟨7, 3, 0, 0, 0⟩]⟩]⟩ = (⟨30, 10, 5, 2, [zeroL, ⟨30, []⟩]⟩, ⟨7, 3, 0, 0, 0⟩, true) by decide] at c3
  simp only [shapeV, joinV, fairV] at c1 c2 c3
  generalize (⟨0, 10, 5, 2, [zeroL, zeroL]⟩ : TFair) = A at *
  generalize (⟨0, 10, 5, 2, [zeroL, ⟨0, [⟨7, 3, 0, 0, 0⟩]⟩]⟩ : TFair) = B at *
  obtain ⟨C, hC, hC2⟩ : ∃ C : TFair, C = ⟨30, 10, 5, 2, [zeroL, ⟨30, []⟩]⟩ ∧ C.r = 30 := ⟨_, rfl, rfl⟩
  rw [← hC] at c3
  refine PCall_intro (c := Try.f36.body.getD .skip) Try.func36 rfl (by decide +kernel) Zf (W_start ?_)
  simp only [Try.f36, go_sem]
  repeat' first
    | refine Z0 ?_
    | refine Zx ?_
    | refine Zc c1 ?_
    | refine Zc c3 ?_
    | (refine Ze ?_; clear hK K)
    | refine W_reg fun K hK => ?_
    | refine W_drwR rfl mixed (by decide +kernel) fun K hK => ?_
    | refine W_drw mixed (by decide +kernel) fun K hK => ?_
    | (refine Zb ?_ ?_ <;> intro hb <;> first | (simp (disch := omega) only [go_sem] at hb; done) | (simp (disch := omega) only [go_sem] at hb; try omega) | try omega)
    | (refine Zl ?_; intro bn hnil; (try simp (disch := omega) only [go_sem] at hnil); dsimp only [putT, List.set_cons_succ, List.set_cons_zero])
  (apply AO_frzT 15 ([(1 : Int)]); (case ht => exact rfl); (case hl => simp only [go_sem]; exact rfl); (case e => first | rfl | (simp; done) | (simp [rws, Enc.enc]; done)); (case hn => first | rfl | simp); (case e1 => exact subT); (case e2 => exact subU))
  have zz1 := hC2
  repeat' first
    | refine Z1 ?_
    | refine Zx ?_
    | refine Zc c2 ?_
    | refine Zc c3 ?_
    | (refine Ze ?_; clear hK K)
    | refine W_reg fun K hK => ?_
    | refine W_drwR rfl mixed (by decide +kernel) fun K hK => ?_
    | refine W_drw mixed (by decide +kernel) fun K hK => ?_
    | (refine Zb ?_ ?_ <;> intro hb <;> first | (simp (disch := omega) only [go_sem, zz1] at hb; done) | (simp (disch := omega) only [go_sem, zz1] at hb; try omega) | try omega)
    | (refine Zl ?_; intro bn hnil; (try simp (disch := omega) only [go_sem, zz1] at hnil); dsimp only [putT, List.set_cons_succ, List.set_cons_zero])
  exact Zr

def smallB (f : TFair) : Bool := decide (f.lanes.length ≤ 100) && f.lanes.all fun l => decide (l.wait.length ≤ 100)

theorem small_ok (f : TFair) (hf : f.wf) : PCall Try.prog 39 [.agg (Enc.enc f)] (· = .bool (smallB f)) := by
  obtain ⟨_, _, _, _, hf1, hf2⟩ := hf
  unfold maxLen at hf1
  refine PCall_intro (c := Try.f39.body.getD .skip) Try.func39 rfl (by decide +kernel) Zf (W_start ?_)
  simp only [Try.f39, go_sem]
  rcases Nat.lt_or_ge 100 f.lanes.length with h1 | h1
  · rw [show smallB f = false by simp [smallB]; omega]
    repeat' first
      | refine Z0 ?_
      | refine Zx ?_
      | (refine Ze ?_; clear hK K)
      | refine W_reg fun K hK => ?_
      | refine W_drwR rfl mixed (by decide +kernel) fun K hK => ?_
      | refine W_drw mixed (by decide +kernel) fun K hK => ?_
      | (refine Zb ?_ ?_ <;> intro hb <;> first | (simp (disch := omega) only [go_sem] at hb; done) | (simp (disch := omega) only [go_sem] at hb; try omega) | try omega)
      | (refine Zl ?_; intro bn hnil; (try simp (disch := omega) only [go_sem] at hnil); dsimp only [putT, List.set_cons_succ, List.set_cons_zero])
    exact Zr
  · have e0 : smallB f = f.lanes.all fun l => decide (l.wait.length ≤ 100) := by simp [smallB, h1]
    rw [e0]
    repeat' first
      | refine Z0 ?_
      | refine Zx ?_
      | (refine Ze ?_; clear hK K)
      | refine W_reg fun K hK => ?_
      | refine W_drwR rfl mixed (by decide +kernel) fun K hK => ?_
      | refine W_drw mixed (by decide +kernel) fun K hK => ?_
      | (refine Zb ?_ ?_ <;> intro hb <;> first | (simp (disch := omega) only [go_sem] at hb; done) | (simp (disch := omega) only [go_sem] at hb; try omega) | try omega)
      | (refine Zl ?_; intro bn hnil; (try simp (disch := omega) only [go_sem] at hnil); dsimp only [putT, List.set_cons_succ, List.set_cons_zero])
    refine W_foldK (fun (i : Nat) => [none, none, some .junk, some (.int .i64 i), none, none, none, none, some .junk, some .junk, some .junk, some .junk, some .junk, some .junk, some .junk, some .junk, some .junk, some .junk, some .junk, some .junk, some .junk, some .junk, some .junk]) (fun i => i ≤ f.lanes.length ∧ ∀ k l, k < i → f.lanes[k]? = some l → (fun l : TLane => decide (l.wait.length ≤ 100)) l = true) (fun i => f.lanes.length - i) 0 ⟨by omega, by omega⟩ (by exact weak_mk wkD wkH wkN wkM (by omega)) ?_
    rintro i ⟨hi, hyes⟩
    simp only [msk_none, msk_some, msk_nil]
    rcases Nat.lt_or_ge i f.lanes.length with h4 | h4
    · obtain ⟨l, hx⟩ := some_of_lt h4
      have hw := (hf2 l (List.mem_of_getElem? hx)).2.1
      unfold maxLen at hw
      rcases Nat.lt_or_ge 100 l.wait.length with h5 | h5
      · rw [all_at (p := fun l : TLane => decide (l.wait.length ≤ 100)) hx (by simp; omega)]
        have zz1 := rws_get hx
        repeat' first
          | refine Z1 ?_
          | refine Zx ?_
          | (refine Ze ?_; clear hK K)
          | refine W_reg fun K hK => ?_
          | refine W_drwR rfl mixed (by decide +kernel) fun K hK => ?_
          | refine W_drw mixed (by decide +kernel) fun K hK => ?_
          | (refine Zb ?_ ?_ <;> intro hb <;> first | (simp (disch := omega) only [go_sem, zz1] at hb; done) | (simp (disch := omega) only [go_sem, zz1] at hb; try omega) | try omega)
          | (refine Zl ?_; intro bn hnil; (try simp (disch := omega) only [go_sem, zz1] at hnil); dsimp only [putT, List.set_cons_succ, List.set_cons_zero])
        exact Zr
      · have zz1 := rws_get hx
        repeat' first
          | refine Z1 ?_
          | refine Zx ?_
          | (refine Ze ?_; clear hK K)
          | refine W_reg fun K hK => ?_
          | refine W_drwR rfl mixed (by decide +kernel) fun K hK => ?_
          | refine W_drw mixed (by decide +kernel) fun K hK => ?_
          | (refine Zb ?_ ?_ <;> intro hb <;> first | (simp (disch := omega) only [go_sem, zz1] at hb; done) | (simp (disch := omega) only [go_sem, zz1] at hb; try omega) | try omega)
          | (refine Zl ?_; intro bn hnil; (try simp (disch := omega) only [go_sem, zz1] at hnil); dsimp only [putT, List.set_cons_succ, List.set_cons_zero])
        exact L_next ⟨i + 1, by omega, ⟨by omega, yes_step hx (by simp; omega) hyes⟩, (by exact weak_mk wkD wkH wkN wkM (by omega))⟩
    · obtain rfl : i = f.lanes.length := by omega
      rw [all_none hyes]
      repeat' first
        | refine Z0 ?_
        | refine Zx ?_
        | (refine Ze ?_; clear hK K)
        | refine W_reg fun K hK => ?_
        | refine W_drwR rfl mixed (by decide +kernel) fun K hK => ?_
        | refine W_drw mixed (by decide +kernel) fun K hK => ?_
        | (refine Zb ?_ ?_ <;> intro hb <;> first | (simp (disch := omega) only [go_sem] at hb; done) | (simp (disch := omega) only [go_sem] at hb; try omega) | try omega)
        | (refine Zl ?_; intro bn hnil; (try simp (disch := omega) only [go_sem] at hnil); dsimp only [putT, List.set_cons_succ, List.set_cons_zero])
      exact Zr

theorem small_okF {f : TFair} (hf : f.wf) (h : smallB f = true) : okF 100 100 f := by
  simp only [smallB, Bool.and_eq_true, decide_eq_true_eq, List.all_eq_true] at h
  exact ⟨h.1, fun l hl => ⟨(hf.2.2.2.2.2 l hl).1.1, by have := h.2 l hl; omega⟩⟩

theorem okF_join {n m : Nat} {f : TFair} (h : okF n m f) (hand : List Int) (t : TTicket) : okF n (m + 1) (fjoin f hand t).1 := by
  have hz : okF n (m + 1) zeroF := ⟨by simp [zeroF], by simp [zeroF]⟩
  rw [fjoin]
  split
  · exact hz
  · split
    · exact hz
    · have h1 := h.at (choose f hand)
      have h2 := join_len2 (laneAt f (choose f hand)) f.r t h1.1
      exact (h.mono (Nat.le_refl _) (Nat.le_succ m)).set _ _ h2.2 (by omega) _ _ _ _

theorem okF_take {n m : Nat} {f : TFair} (h : okF n m f) : okF n m (ftake f).1 := by
  rw [ftake]
  split
  · exact h
  · have h1 := h.at (next f)
    have h2 := take_len2 (laneAt f (next f)) f.guess h1.1
    exact (h.set _ _ h2.2 (by omega) _ _ _ _).trim

theorem okF_drop {n m : Nat} {f : TFair} (h : okF n m f) (id : Int) : okF n m (fdrop f id).1 := by
  rw [fdrop]
  split
  · have h1 := h.at (dropAt f id)
    have h2 := drop_len2 (laneAt f (dropAt f id)) id h1.1
    exact (h.set _ _ h2.2 (by omega) _ _ _ _).trim
  · exact h

theorem okF_shape {n m : Nat} {f : TFair} (h : okF n m f) (hn : 64 ≤ n) (o g k : Int) : okF n m (shape f o g k).1 := by
  rw [shape]
  split
  · rename_i hm
    have ho := (mayB_iff o g k).1 hm
    exact (h.grow o (by omega) hn f.r g k o).trim
  · exact ⟨by simp [zeroF], by simp [zeroF]⟩

theorem okF_shut {n m : Nat} {f : TFair} (h : okF n m f) : okF n m (shut f) := okF.trim (f := ⟨f.r, f.guess, f.length, 0, f.lanes⟩) h

theorem okF_new {n m : Nat} (hn : 64 ≤ n) (o g k : Int) : okF n m (fnew o g k).1 := okF_shape ⟨by simp [zeroF], by simp [zeroF]⟩ hn o g k

theorem fairAll_ok (f : TFair) (hand : List Int) (t : TTicket) (o g n : Int) (hw : f.wf) (hh : hand.length ≤ maxLen) : PCall Try.prog 14 [.agg (Enc.enc f), .sl (rws hand) none, .agg (Enc.enc t), .int .i64 o, .int .i64 g, .int .i64 n] (· = .bool true) := by
  have c0 := awake22_ok
  have cs := small_ok f hw
  have hh2 := hh
  unfold maxLen at hh2
  by_cases hs : smallB f = true
  · rw [hs] at cs
    rcases Nat.lt_or_ge 100 hand.length with h1 | h1
    · refine PCall_intro (c := Try.f14.body.getD .skip) Try.func14 rfl (by decide +kernel) Zf (W_start ?_)
      simp only [Try.f14, go_sem]
      repeat' first
        | refine Z0 ?_
        | refine Zx ?_
        | refine Zc c0 ?_
        | refine Zc cs ?_
        | (refine Ze ?_; clear hK K)
        | refine W_reg fun K hK => ?_
        | refine W_drwR rfl mixed (by decide +kernel) fun K hK => ?_
        | refine W_drw mixed (by decide +kernel) fun K hK => ?_
        | (refine Zb ?_ ?_ <;> intro hb <;> first | (simp (disch := omega) only [go_sem] at hb; done) | (simp (disch := omega) only [go_sem] at hb; try omega) | try omega)
        | (refine Zl ?_; intro bn hnil; (try simp (disch := omega) only [go_sem] at hnil); dsimp only [putT, List.set_cons_succ, List.set_cons_zero])
      exact Zr
    · have hf := small_okF hw hs
      have k1 := fcopyP_ok f (hf.mono (by omega) (by omega))
      have hf2 := hf.mono (n' := 1000) (m' := 1000) (by omega) (by omega)
      have s1 := fun (F : TFair) (h : okF 1000 1000 F) => fsame_ok F F h h
      simp only [decide_true] at s1
      have a1 := fnew_ok o g n
      have a2 := rnew_ok o g n
      have a3 := s1 _ (okF_new (n := 1000) (m := 1000) (by omega) o g n)
      have b1 := shape_ok f o g n hf2
      have b2 := rshape_ok f o g n hf2
      have b3 := s1 _ (okF_shape hf2 (by omega) o g n)
      have c1 := shut_ok f hf2
      have c2 := rshut_ok f hf2
      have c3 := s1 _ (okF_shut hf2)
      have d1 := fjoin_ok f hand t hf2 hh
      have d2 := rfjoin_ok f hand t hf2 hh
      have d3 := s1 _ ((okF_join hf hand t).mono (by omega) (by omega))
      have e1 := choose_ok f hand hf2 hh
      have e2 := rchoose_ok f hand hf2 hh
      have f1 := ftake_ok f hf2
      have f2 := rftake_ok f hf2
      have f3 := s1 _ (okF_take hf2)
      have g1 := fdrop_ok f t.iD hf2
      have g2 := rfdrop_ok f t.iD hf2
      have g3 := s1 _ (okF_drop hf2 t.iD)
      have h1 := next_ok f hf2
      have h2 := rnext_ok f hf2
      have i1 := waiting_ok f hf2
      have i2 := rwaiting_ok f hf2
      have i3 := fseats_ok f hf2
      have i4 := rfseats_ok f hf2
      have i5 := s1 f hf2
      simp only [shapeV, joinV, fairV] at a1 a2 b1 b2 d1 d2 f1 f2 g1 g2
      generalize fnew o g n = A at *
      obtain ⟨A, aa⟩ := A
      generalize shape f o g n = B at *
      obtain ⟨B, bb⟩ := B
      generalize shut f = C at *
      generalize fjoin f hand t = D at *
      obtain ⟨D, dd, de⟩ := D
      generalize choose f hand = E at *
      generalize ftake f = F at *
      obtain ⟨F, ft, fo⟩ := F
      generalize fdrop f t.iD = G at *
      obtain ⟨G, gt, go⟩ := G
      generalize max (next f) 0 = H at *
      generalize decide (0 ≤ next f) = H2 at *
      generalize waiting f = I at *
      generalize fseats f = J at *
      dsimp only at a1 a2 a3 b1 b2 b3 d1 d2 d3 f1 f2 f3 g1 g2 g3
      clear s1 hf hf2 hw
      refine PCall_intro (c := Try.f14.body.getD .skip) Try.func14 rfl (by decide +kernel) Zf (W_start ?_)
      simp only [Try.f14, go_sem]
      repeat' first
        | refine Z0 ?_
        | refine Zx ?_
        | refine Zc c0 ?_
        | refine Zc cs ?_
        | refine Zc k1 ?_
        | refine Zc a1 ?_
        | refine Zc a2 ?_
        | refine Zc b1 ?_
        | refine Zc b2 ?_
        | (refine Ze ?_; clear hK K)
        | refine W_regNe 10 (by decide) fun K hK => ?_
        | refine W_drwRNe 10 (by decide) rfl mixed (by decide +kernel) fun K hK => ?_
        | refine W_drwNe 10 (by decide) mixed (by decide +kernel) fun K hK => ?_
        | (refine Zb ?_ ?_ <;> intro hb <;> first | (simp (disch := omega) only [go_sem] at hb; done) | (simp (disch := omega) only [go_sem] at hb; try omega) | try omega)
        | (refine Zl ?_; intro bn hnil; (try simp (disch := omega) only [go_sem] at hnil); dsimp only [putT, List.set_cons_succ, List.set_cons_zero])
      as_aux_lemma =>
        repeat' first
          | refine Z0 ?_
          | refine Zx ?_
          | refine Zc a3 ?_
          | refine Zc b3 ?_
          | refine Zc c1 ?_
          | refine Zc c2 ?_
          | refine Zc c3 ?_
          | (refine Ze ?_; clear hK K)
          | refine W_regNe 12 (by decide) fun K hK => ?_
          | refine W_drwRNe 12 (by decide) rfl mixed (by decide +kernel) fun K hK => ?_
          | refine W_drwNe 12 (by decide) mixed (by decide +kernel) fun K hK => ?_
          | (refine Zb ?_ ?_ <;> intro hb <;> first | (simp (disch := omega) only [go_sem] at hb; done) | (simp (disch := omega) only [go_sem] at hb; try omega) | try omega)
          | (refine Zl ?_; intro bn hnil; (try simp (disch := omega) only [go_sem] at hnil); dsimp only [putT, List.set_cons_succ, List.set_cons_zero])
        as_aux_lemma =>
          repeat' first
            | refine Z0 ?_
            | refine Zx ?_
            | refine Zc d1 ?_
            | refine Zc d2 ?_
            | refine Zc d3 ?_
            | refine Zc e1 ?_
            | refine Zc e2 ?_
            | (refine Ze ?_; clear hK K)
            | refine W_regNe 16 (by decide) fun K hK => ?_
            | refine W_drwRNe 16 (by decide) rfl mixed (by decide +kernel) fun K hK => ?_
            | refine W_drwNe 16 (by decide) mixed (by decide +kernel) fun K hK => ?_
            | (refine Zb ?_ ?_ <;> intro hb <;> first | (simp (disch := omega) only [go_sem] at hb; done) | (simp (disch := omega) only [go_sem] at hb; try omega) | try omega)
            | (refine Zl ?_; intro bn hnil; (try simp (disch := omega) only [go_sem] at hnil); dsimp only [putT, List.set_cons_succ, List.set_cons_zero])
          as_aux_lemma =>
            repeat' first
              | refine Z0 ?_
              | refine Zx ?_
              | refine Zc f1 ?_
              | refine Zc f2 ?_
              | refine Zc g1 ?_
              | refine Zc g2 ?_
              | (refine Ze ?_; clear hK K)
              | refine W_regNe 20 (by decide) fun K hK => ?_
              | refine W_drwRNe 20 (by decide) rfl mixed (by decide +kernel) fun K hK => ?_
              | refine W_drwNe 20 (by decide) mixed (by decide +kernel) fun K hK => ?_
              | (refine Zb ?_ ?_ <;> intro hb <;> first | (simp (disch := omega) only [go_sem] at hb; done) | (simp (disch := omega) only [go_sem] at hb; try omega) | try omega)
              | (refine Zl ?_; intro bn hnil; (try simp (disch := omega) only [go_sem] at hnil); dsimp only [putT, List.set_cons_succ, List.set_cons_zero])
            as_aux_lemma =>
              repeat' first
                | refine Z0 ?_
                | refine Zx ?_
                | refine Zc f3 ?_
                | refine Zc g3 ?_
                | refine Zc h1 ?_
                | refine Zc h2 ?_
                | (refine Ze ?_; clear hK K)
                | refine W_regNe 24 (by decide) fun K hK => ?_
                | refine W_drwRNe 24 (by decide) rfl mixed (by decide +kernel) fun K hK => ?_
                | refine W_drwNe 24 (by decide) mixed (by decide +kernel) fun K hK => ?_
                | (refine Zb ?_ ?_ <;> intro hb <;> first | (simp (disch := omega) only [go_sem] at hb; done) | (simp (disch := omega) only [go_sem] at hb; try omega) | try omega)
                | (refine Zl ?_; intro bn hnil; (try simp (disch := omega) only [go_sem] at hnil); dsimp only [putT, List.set_cons_succ, List.set_cons_zero])
              as_aux_lemma =>
                repeat' first
                  | refine Z0 ?_
                  | refine Zx ?_
                  | refine Zc i1 ?_
                  | refine Zc i2 ?_
                  | refine Zc i3 ?_
                  | refine Zc i4 ?_
                  | refine Zc i5 ?_
                  | (refine Ze ?_; clear hK K)
                  | refine W_reg fun K hK => ?_
                  | refine W_drwR rfl mixed (by decide +kernel) fun K hK => ?_
                  | refine W_drw mixed (by decide +kernel) fun K hK => ?_
                  | (refine Zb ?_ ?_ <;> intro hb <;> first | (simp (disch := omega) only [go_sem] at hb; done) | (simp (disch := omega) only [go_sem] at hb; try omega) | try omega)
                  | (refine Zl ?_; intro bn hnil; (try simp (disch := omega) only [go_sem] at hnil); dsimp only [putT, List.set_cons_succ, List.set_cons_zero])
                exact Zr
  · have hs := Bool.eq_false_iff.2 hs
    rw [hs] at cs
    refine PCall_intro (c := Try.f14.body.getD .skip) Try.func14 rfl (by decide +kernel) Zf (W_start ?_)
    simp only [Try.f14, go_sem]
    repeat' first
      | refine Z0 ?_
      | refine Zx ?_
      | refine Zc c0 ?_
      | refine Zc cs ?_
      | (refine Ze ?_; clear hK K)
      | refine W_reg fun K hK => ?_
      | refine W_drwR rfl mixed (by decide +kernel) fun K hK => ?_
      | refine W_drw mixed (by decide +kernel) fun K hK => ?_
      | (refine Zb ?_ ?_ <;> intro hb <;> first | (simp (disch := omega) only [go_sem] at hb; done) | (simp (disch := omega) only [go_sem] at hb; try omega) | try omega)
      | (refine Zl ?_; intro bn hnil; (try simp (disch := omega) only [go_sem] at hnil); dsimp only [putT, List.set_cons_succ, List.set_cons_zero])
    exact Zr

end Go.Proofs.Ytdgjelfeclgolaa
