/-
  Lanes that take turns: the reference's copies, its trimming, choosing, join, take, drop, shape; walked.
-/
import Derived.Test.YtdgjelfeclgolaaF11
namespace Go.Proofs.Ytdgjelfeclgolaa
open Go Go.AM
set_option maxHeartbeats 4000000
set_option linter.unusedSimpArgs false
set_option linter.unusedVariables false

theorem rcopyQ_ok (l : TLane) (hl : l.wait.length ≤ 4294967296) : PCall Try.prog 27 [.agg (Enc.enc l)] (· = .agg (Enc.enc l)) := by
  refine PCall_intro (c := Try.f27.body.getD .skip) Try.func27 rfl (by decide +kernel) Zf (W_start ?_)
  simp only [Try.f27, go_sem]
  repeat' first
    | refine Z0 ?_
    | refine Zx ?_
    | (refine Ze ?_; clear hK K)
    | refine W_reg fun K hK => ?_
    | refine W_drwR rfl mixed (by decide +kernel) fun K hK => ?_
    | refine W_drw mixed (by decide +kernel) fun K hK => ?_
    | (refine Zb ?_ ?_ <;> intro hb <;> first | (simp (disch := omega) only [go_sem] at hb; done) | (simp (disch := omega) only [go_sem] at hb; try omega) | try omega)
    | (refine Zl ?_; intro bn hnil; (try simp (disch := omega) only [go_sem] at hnil); dsimp only [putT, List.set_cons_succ, List.set_cons_zero])
  exact Zr

theorem fcopy_ok (f : TFair) (hf : okF 1000 1000 f) : PNew Try.prog 49 [.agg (Enc.enc f)] (fun j => .agg [.int .u64 f.r, .int .i64 f.guess, .int .i64 f.length, .int .i64 f.open_, .ref j f.lanes.length 0 f.lanes.length false f.lanes.length]) (.arr 2 (rws f.lanes)) := by
  have hn := hf.1
  refine PNew_body (c := Try.f49.body.getD .skip) Try.func49 rfl (by decide +kernel) Zf (fair1 _ _ _ _ _) (rws_mem _) (W_start ?_)
  simp only [Try.f49, go_sem]
  repeat' first
    | refine Z0 ?_
    | refine Zx ?_
    | (refine Ze ?_; clear hK K)
    | refine W_reg fun K hK => ?_
    | refine W_drwR rfl mixed (by decide +kernel) fun K hK => ?_
    | refine W_drw mixed (by decide +kernel) fun K hK => ?_
    | (refine Zb ?_ ?_ <;> intro hb <;> first | (simp (disch := omega) only [go_sem] at hb; done) | (simp (disch := omega) only [go_sem] at hb; try omega) | try omega)
    | (refine Zl ?_; intro bn hnil; (try simp (disch := omega) only [go_sem] at hnil); dsimp only [putT, List.set_cons_succ, List.set_cons_zero])
  (apply W_unbornAt 3 2; (case ht => exact rfl); (case e => exact sT); (case hn => exact nT))
  refine W_foldA (fun id (a : Nat) => [none, none, none, some (.ref id a 0 a false a), some (.int .i64 a), some .junk, some .junk, some .junk, some .junk, some .junk, some .junk, some .junk, some .junk, some .junk, some .junk, some .junk, some .junk, some .junk, some .junk, some .junk, some .junk]) (fun a => rws (f.lanes.take a)) (fun a => a ≤ f.lanes.length) (fun a => f.lanes.length - a) 0 (by simp) (by exact weak_mk wkD wkH wkN wkM (by omega)) ?_
  rintro i hi
  simp only [msk_none, msk_some, msk_nil]
  have h5 : (f.lanes.take i).length = i := by simp; omega
  rcases Nat.lt_or_ge i f.lanes.length with h4 | h4
  · obtain ⟨x, hx⟩ := some_of_lt h4
    have c1 := rcopyQ_ok x (Nat.le_trans (hf.2 x (List.mem_of_getElem? hx)).2 (by omega))
    have e1 := rws_snocT hx
    simp only [enc_TLane] at e1
    have zz1 := rws_get hx
    have zz2 := e1
    have zz3 := h5
    repeat' first
      | refine Z3 ?_
      | refine Zx ?_
      | refine Zc c1 ?_
      | (refine Ze ?_; clear hK K)
      | refine W_reg fun K hK => ?_
      | refine W_drwR rfl mixed (by decide +kernel) fun K hK => ?_
      | refine W_drw mixed (by decide +kernel) fun K hK => ?_
      | (refine Zb ?_ ?_ <;> intro hb <;> first | (simp (disch := omega) only [go_sem, zz1, zz2, zz3] at hb; done) | (simp (disch := omega) only [go_sem, zz1, zz2, zz3] at hb; try omega) | try omega)
      | (refine Zl ?_; intro bn hnil; (try simp (disch := omega) only [go_sem, zz1, zz2, zz3] at hnil); dsimp only [putT, List.set_cons_succ, List.set_cons_zero])
    exact L_next ⟨i + 1, by omega, by omega, (by exact weak_mk wkD wkH wkN wkM (by omega))⟩
  · obtain rfl : i = f.lanes.length := by omega
    simp only [List.take_length]
    repeat' first
      | refine Z0 ?_
      | refine Zx ?_
      | (refine Ze ?_; clear hK K)
      | refine W_reg fun K hK => ?_
      | refine W_drwR rfl mixed (by decide +kernel) fun K hK => ?_
      | refine W_drw mixed (by decide +kernel) fun K hK => ?_
      | (refine Zb ?_ ?_ <;> intro hb <;> first | (simp (disch := omega) only [go_sem] at hb; done) | (simp (disch := omega) only [go_sem] at hb; try omega) | try omega)
      | (refine Zl ?_; intro bn hnil; (try simp (disch := omega) only [go_sem] at hnil); dsimp only [putT, List.set_cons_succ, List.set_cons_zero])
    exact Zrw

theorem fcopyP_ok (f : TFair) (hf : okF 1000 1000 f) : PCall Try.prog 49 [.agg (Enc.enc f)] (· = .agg (Enc.enc f)) := by
  have hn := hf.1
  refine PCall_intro (c := Try.f49.body.getD .skip) Try.func49 rfl (by decide +kernel) Zf (W_start ?_)
  simp only [Try.f49, go_sem]
  repeat' first
    | refine Z0 ?_
    | refine Zx ?_
    | (refine Ze ?_; clear hK K)
    | refine W_reg fun K hK => ?_
    | refine W_drwR rfl mixed (by decide +kernel) fun K hK => ?_
    | refine W_drw mixed (by decide +kernel) fun K hK => ?_
    | (refine Zb ?_ ?_ <;> intro hb <;> first | (simp (disch := omega) only [go_sem] at hb; done) | (simp (disch := omega) only [go_sem] at hb; try omega) | try omega)
    | (refine Zl ?_; intro bn hnil; (try simp (disch := omega) only [go_sem] at hnil); dsimp only [putT, List.set_cons_succ, List.set_cons_zero])
  (apply W_unbornAt 3 2; (case ht => exact rfl); (case e => exact sT); (case hn => exact nT))
  refine W_foldA (fun id (a : Nat) => [none, none, none, some (.ref id a 0 a false a), some (.int .i64 a), some .junk, some .junk, some .junk, some .junk, some .junk, some .junk, some .junk, some .junk, some .junk, some .junk, some .junk, some .junk, some .junk, some .junk, some .junk, some .junk]) (fun a => rws (f.lanes.take a)) (fun a => a ≤ f.lanes.length) (fun a => f.lanes.length - a) 0 (by simp) (by exact weak_mk wkD wkH wkN wkM (by omega)) ?_
  rintro i hi
  simp only [msk_none, msk_some, msk_nil]
  have h5 : (f.lanes.take i).length = i := by simp; omega
  rcases Nat.lt_or_ge i f.lanes.length with h4 | h4
  · obtain ⟨x, hx⟩ := some_of_lt h4
    have c1 := rcopyQ_ok x (Nat.le_trans (hf.2 x (List.mem_of_getElem? hx)).2 (by omega))
    have e1 := rws_snocT hx
    simp only [enc_TLane] at e1
    have zz1 := rws_get hx
    have zz2 := e1
    have zz3 := h5
    repeat' first
      | refine Z3 ?_
      | refine Zx ?_
      | refine Zc c1 ?_
      | (refine Ze ?_; clear hK K)
      | refine W_reg fun K hK => ?_
      | refine W_drwR rfl mixed (by decide +kernel) fun K hK => ?_
      | refine W_drw mixed (by decide +kernel) fun K hK => ?_
      | (refine Zb ?_ ?_ <;> intro hb <;> first | (simp (disch := omega) only [go_sem, zz1, zz2, zz3] at hb; done) | (simp (disch := omega) only [go_sem, zz1, zz2, zz3] at hb; try omega) | try omega)
      | (refine Zl ?_; intro bn hnil; (try simp (disch := omega) only [go_sem, zz1, zz2, zz3] at hnil); dsimp only [putT, List.set_cons_succ, List.set_cons_zero])
    exact L_next ⟨i + 1, by omega, by omega, (by exact weak_mk wkD wkH wkN wkM (by omega))⟩
  · obtain rfl : i = f.lanes.length := by omega
    simp only [List.take_length]
    repeat' first
      | refine Z0 ?_
      | refine Zx ?_
      | (refine Ze ?_; clear hK K)
      | refine W_reg fun K hK => ?_
      | refine W_drwR rfl mixed (by decide +kernel) fun K hK => ?_
      | refine W_drw mixed (by decide +kernel) fun K hK => ?_
      | (refine Zb ?_ ?_ <;> intro hb <;> first | (simp (disch := omega) only [go_sem] at hb; done) | (simp (disch := omega) only [go_sem] at hb; try omega) | try omega)
      | (refine Zl ?_; intro bn hnil; (try simp (disch := omega) only [go_sem] at hnil); dsimp only [putT, List.set_cons_succ, List.set_cons_zero])
    exact Zr

theorem wrong_ok (o g n : Int) : PCall Try.prog 102 [.int .i64 o, .int .i64 g, .int .i64 n] (· = .bool (!mayB o g n)) := by
  refine PCall_intro (c := Try.f102.body.getD .skip) Try.func102 rfl (by decide +kernel) Zf (W_start ?_)
  simp only [Try.f102, go_sem]
  by_cases h : 1 ≤ o ∧ o ≤ 64 ∧ 1 ≤ g ∧ g ≤ 1000 ∧ 1 ≤ n ∧ n ≤ 64
  · rw [show mayB o g n = true from decide_eq_true h]
    obtain ⟨h1, h2, h3, h4, h5, h6⟩ := h
    repeat' first
      | refine Z0 ?_
      | refine Zx ?_
      | (refine Ze ?_; clear hK K)
      | refine W_reg fun K hK => ?_
      | refine W_drwR rfl mixed (by decide +kernel) fun K hK => ?_
      | refine W_drw mixed (by decide +kernel) fun K hK => ?_
      | (refine Zb ?_ ?_ <;> intro hb <;> first | (simp (disch := omega) only [go_sem] at hb; done) | (simp (disch := omega) only [go_sem] at hb; try omega) | try omega)
      | (refine Zl ?_; intro bn hnil; (try simp (disch := omega) only [go_sem] at hnil); dsimp only [putT, List.set_cons_succ, List.set_cons_zero])
    exact Zr
  · rw [show mayB o g n = false from decide_eq_false h]
    repeat' first
      | refine Z0 ?_
      | refine Zx ?_
      | (refine Ze ?_; clear hK K)
      | refine W_reg fun K hK => ?_
      | refine W_drwR rfl mixed (by decide +kernel) fun K hK => ?_
      | refine W_drw mixed (by decide +kernel) fun K hK => ?_
      | (refine Zb ?_ ?_ <;> intro hb <;> first | (simp (disch := omega) only [go_sem] at hb; done) | (simp (disch := omega) only [go_sem] at hb; try omega) | try omega)
      | (refine Zl ?_; intro bn hnil; (try simp (disch := omega) only [go_sem] at hnil); dsimp only [putT, List.set_cons_succ, List.set_cons_zero])
    all_goals first | (exfalso; omega) | skip
    all_goals exact Zr

theorem fnew_eq (o g n : Int) : fnew o g n = if mayB o g n = true then (⟨0, g, n, o, List.replicate o.toNat zeroL⟩, 0) else (zeroF, 1) := by
  rw [fnew, shape]
  by_cases h : mayB o g n = true
  · rw [if_pos h, if_pos h]
    have ho := (mayB_iff o g n).1 h
    have e1 : grow zeroF.lanes o = List.replicate o.toNat zeroL := by simp [grow, zeroF]
    have e2 : trimN o (List.replicate o.toNat zeroL) (List.replicate o.toNat zeroL).length = o.toNat := by
      rw [List.length_replicate]
      obtain ⟨k, hk⟩ : ∃ k : Nat, o.toNat = k + 1 := ⟨o.toNat - 1, by omega⟩
      rw [hk, trimN, if_neg (by omega)]
    rw [e1, ftrim]
    dsimp only
    rw [e2, List.take_of_length_le (by simp)]
    rfl
  · rw [if_neg h, if_neg h]

theorem rnew_ok (o g n : Int) : PCall Try.prog 47 [.int .i64 o, .int .i64 g, .int .i64 n] (· = shapeV (fnew o g n)) := by
  have c1 := wrong_ok o g n
  rw [fnew_eq]
  refine PCall_intro (c := Try.f47.body.getD .skip) Try.func47 rfl (by decide +kernel) Zf (W_start ?_)
  simp only [Try.f47, go_sem]
  by_cases hm : mayB o g n = true
  · rw [hm] at c1
    rw [if_pos hm]
    have ho := (mayB_iff o g n).1 hm
    obtain ⟨m, rfl⟩ : ∃ m : Nat, o = m := ⟨o.toNat, by omega⟩
    rw [Int.toNat_natCast]
    have fr : FrR0 (List.replicate m [.int .u64 0, .sl [] (some 0)]) (rws (List.replicate m zeroL)) := by
      rw [← rws_rep]
      exact FrR.rep (.cons (.refl _) (.cons (.slR .nil) .nil)) m
    repeat' first
      | refine Z0 ?_
      | refine Zx ?_
      | refine Zc c1 ?_
      | (refine Ze ?_; clear hK K)
      | refine W_reg fun K hK => ?_
      | refine W_drwR rfl mixed (by decide +kernel) fun K hK => ?_
      | refine W_drw mixed (by decide +kernel) fun K hK => ?_
      | (refine Zb ?_ ?_ <;> intro hb <;> first | (simp (disch := omega) only [go_sem] at hb; done) | (simp (disch := omega) only [go_sem] at hb; try omega) | try omega)
      | (refine Zl ?_; intro bn hnil; (try simp (disch := omega) only [go_sem] at hnil); dsimp only [putT, List.set_cons_succ, List.set_cons_zero])
    exact Zr
  · have hm := Bool.eq_false_iff.2 hm
    rw [hm] at c1
    rw [if_neg (by rw [hm]; simp)]
    repeat' first
      | refine Z0 ?_
      | refine Zx ?_
      | refine Zc c1 ?_
      | (refine Ze ?_; clear hK K)
      | refine W_reg fun K hK => ?_
      | refine W_drwR rfl mixed (by decide +kernel) fun K hK => ?_
      | refine W_drw mixed (by decide +kernel) fun K hK => ?_
      | (refine Zb ?_ ?_ <;> intro hb <;> first | (simp (disch := omega) only [go_sem] at hb; done) | (simp (disch := omega) only [go_sem] at hb; try omega) | try omega)
      | (refine Zl ?_; intro bn hnil; (try simp (disch := omega) only [go_sem] at hnil); dsimp only [putT, List.set_cons_succ, List.set_cons_zero])
    exact Zr

theorem rtrim_ok (f : TFair) (hf : okF 1000 1000 f) : PCall Try.prog 103 [.agg (Enc.enc f)] (· = .agg (Enc.enc (ftrim f))) := by
  have hn := hf.1
  refine PCall_intro (c := Try.f103.body.getD .skip) Try.func103 rfl (by decide +kernel) Zf (W_start ?_)
  simp only [Try.f103, go_sem]
  repeat' first
    | refine Z0 ?_
    | refine Zx ?_
    | (refine Ze ?_; clear hK K)
    | refine W_reg fun K hK => ?_
    | refine W_drwR rfl mixed (by decide +kernel) fun K hK => ?_
    | refine W_drw mixed (by decide +kernel) fun K hK => ?_
    | (refine Zb ?_ ?_ <;> intro hb <;> first | (simp (disch := omega) only [go_sem] at hb; done) | (simp (disch := omega) only [go_sem] at hb; try omega) | try omega)
    | (refine Zl ?_; intro bn hnil; (try simp (disch := omega) only [go_sem] at hnil); dsimp only [putT, List.set_cons_succ, List.set_cons_zero])
  refine W_foldMC (fun (n : Nat) => [none, none, none, some .junk, some .junk, some .junk, some .junk, some .junk, some .junk, some .junk, some .junk, some .junk, some .junk, some .junk, some .junk, some .junk, some .junk, some .junk, some .junk, some .junk, some .junk, some .junk, some .junk, some .junk, some .junk, some .junk, some .junk, some .junk, some .junk, some .junk, some .junk, some .junk, some .junk, some .junk, some .junk, some .junk, some .junk, some .junk]) (fun n => [(1, .arr 5 [[.int .u64 0, .int .i64 0, .int .i64 0, .int .i64 0, .sl [] (some 0)]]), (0, .arr 5 [[.int .u64 f.r, .int .i64 f.guess, .int .i64 f.length, .int .i64 f.open_, .sl (rws (f.lanes.take n)) none]])]) (fun n => n ≤ f.lanes.length ∧ trimN f.open_ f.lanes f.lanes.length = trimN f.open_ f.lanes n) (fun n => n) f.lanes.length ⟨by omega, rfl⟩ (by rw [List.take_length]; exact (by exact Can.ofWeak (by exact weak_mk wkD wkH wkN wkM (by omega)))) ?_
  rintro n ⟨h1, h2⟩
  simp only [msk_none, msk_some, msk_nil]
  have h5 : (f.lanes.take n).length = n := by simp; omega
  rcases n with _ | n
  · have e1 : ftrim f = ⟨f.r, f.guess, f.length, f.open_, []⟩ := by rw [ftrim, h2, trimN, List.take_zero]
    rw [e1, List.take_zero]
    repeat' first
      | refine Z0 ?_
      | refine Zx ?_
      | (refine Ze ?_; clear hK K)
      | refine W_reg fun K hK => ?_
      | refine W_drwR rfl mixed (by decide +kernel) fun K hK => ?_
      | refine W_drw mixed (by decide +kernel) fun K hK => ?_
      | (refine Zb ?_ ?_ <;> intro hb <;> first | (simp (disch := omega) only [go_sem] at hb; done) | (simp (disch := omega) only [go_sem] at hb; try omega) | try omega)
      | (refine Zl ?_; intro bn hnil; (try simp (disch := omega) only [go_sem] at hnil); dsimp only [putT, List.set_cons_succ, List.set_cons_zero])
    exact Zr
  · obtain ⟨x, hx⟩ := some_of_lt (l := f.lanes) (i := n) (by omega)
    have hx2 : (f.lanes.take (n + 1))[n]? = some x := by rw [List.getElem?_take_of_lt (by omega), hx]
    rw [trimN, getD_of hx] at h2
    have t1 : (((n + 1 : Nat) : Int) - 1).toNat = n := by omega
    have r1 : List.take n (rws (f.lanes.take (n + 1))) = rws (f.lanes.take n) := by rw [rws_take, List.take_take]; congr 2; omega
    have h6 : (f.lanes.take n).length = n := by simp; omega
    by_cases hc : max f.open_ 0 < (n : Int) + 1 ∧ x.wait.length = 0
    · rw [if_pos hc] at h2
      obtain ⟨h3, h4⟩ := hc
      have zz1 := h5
      have zz2 := t1
      have zz3 := rws_get hx2
      have zz4 := r1
      have zz5 := h6
      repeat' first
        | refine Z5 ?_
        | refine Zx ?_
        | (refine Ze ?_; clear hK K)
        | refine W_reg fun K hK => ?_
        | refine W_drwR rfl mixed (by decide +kernel) fun K hK => ?_
        | refine W_drw mixed (by decide +kernel) fun K hK => ?_
        | (refine Zb ?_ ?_ <;> intro hb <;> first | (simp (disch := omega) only [go_sem, zz1, zz2, zz3, zz4, zz5] at hb; done) | (simp (disch := omega) only [go_sem, zz1, zz2, zz3, zz4, zz5] at hb; try omega) | try omega)
        | (refine Zl ?_; intro bn hnil; (try simp (disch := omega) only [go_sem, zz1, zz2, zz3, zz4, zz5] at hnil); dsimp only [putT, List.set_cons_succ, List.set_cons_zero])
      exact L_next ⟨n, by omega, ⟨by omega, h2⟩, (by apply Can.frzI 27 (f.lanes.take n) (n); (case hl => simp only [go_sem]; exact rfl); (case e => first | rfl | (simp; done) | (simp [rws, Enc.enc]; done)); (case hn => first | rfl | (simp; done) | omega); (case e1 => exact subT); (case e2 => exact subU); (case h => exact Can.ofWeak (by exact weak_mk wkD wkH wkN wkM (by omega))))⟩
    · rw [if_neg hc] at h2
      have e1 : ftrim f = ⟨f.r, f.guess, f.length, f.open_, f.lanes.take (n + 1)⟩ := by rw [ftrim, h2]
      rw [e1]
      have zz1 := h5
      have zz2 := t1
      have zz3 := rws_get hx2
      repeat' first
        | refine Z3 ?_
        | refine Zx ?_
        | (refine Ze ?_; clear hK K)
        | refine W_reg fun K hK => ?_
        | refine W_drwR rfl mixed (by decide +kernel) fun K hK => ?_
        | refine W_drw mixed (by decide +kernel) fun K hK => ?_
        | (refine Zb ?_ ?_ <;> intro hb <;> first | (simp (disch := omega) only [go_sem, zz1, zz2, zz3] at hb; done) | (simp (disch := omega) only [go_sem, zz1, zz2, zz3] at hb; try omega) | try omega)
        | (refine Zl ?_; intro bn hnil; (try simp (disch := omega) only [go_sem, zz1, zz2, zz3] at hnil); dsimp only [putT, List.set_cons_succ, List.set_cons_zero])
      all_goals first | (exfalso; omega) | skip
      all_goals exact Zr

theorem pick_ok {ok : Int → Bool} {s : Int → Int} (h : ∀ k, ok k = true → 0 ≤ k) (l : List Int) : pick ok s l = -1 ∨ (0 ≤ pick ok s l ∧ ok (pick ok s l) = true) := by
  rcases pick_cases (s := s) h l with ⟨h1, _⟩ | ⟨h1, h2, _⟩
  · exact .inl h1
  · exact .inr ⟨h1, h2⟩

theorem rchoose_ok (f : TFair) (hand : List Int) (hf : okF 1000 1000 f) (hh : hand.length ≤ maxLen) : PCall Try.prog 58 [.agg (Enc.enc f), .sl (rws hand) none] (· = .int .i64 (choose f hand)) := by
  have hn := hf.1
  unfold maxLen at hh
  refine PCall_intro (c := Try.f58.body.getD .skip) Try.func58 rfl (by decide +kernel) Zf (W_start ?_)
  simp only [Try.f58, go_sem]
  repeat' first
    | refine Z0 ?_
    | refine Zx ?_
    | (refine Ze ?_; clear hK K)
    | refine W_reg fun K hK => ?_
    | refine W_drwR rfl mixed (by decide +kernel) fun K hK => ?_
    | refine W_drw mixed (by decide +kernel) fun K hK => ?_
    | (refine Zb ?_ ?_ <;> intro hb <;> first | (simp (disch := omega) only [go_sem] at hb; done) | (simp (disch := omega) only [go_sem] at hb; try omega) | try omega)
    | (refine Zl ?_; intro bn hnil; (try simp (disch := omega) only [go_sem] at hnil); dsimp only [putT, List.set_cons_succ, List.set_cons_zero])
  refine W_foldK (fun (a : Nat × Int) => [none, none, none, none, none, some (.int .i64 a.2), some (.int .i64 ((a.1 : Int) - 1)), some .junk, none, none, none, some .junk, some .junk, some .junk, some .junk, some .junk, some .junk, some .junk, some .junk, some .junk, some .junk, some .junk, some .junk, some .junk, some .junk, some .junk, some .junk, some .junk, some .junk, some .junk, some .junk, some .junk, some .junk, some .junk, some .junk, some .junk, some .junk, some .junk, some .junk, some .junk, some .junk, some .junk, some .junk, some .junk, some .junk, some .junk, some .junk, some .junk, some .junk, some .junk, some .junk, some .junk, some .junk, some .junk]) (fun a => a.1 ≤ hand.length ∧ a.2 = pick (okHand f) (fun k => seats (laneAt f k)) (hand.drop a.1)) (fun a => a.1) (hand.length, -1) ⟨by simp, by rw [List.drop_length]; rfl⟩ (by exact weak_mk wkD wkH wkN wkM (by omega)) ?_
  rintro ⟨i, b⟩ ⟨h1, h2⟩
  simp only [] at h1 h2
  simp only [msk_none, msk_some, msk_nil]
  rcases i with _ | i
  · rw [List.drop_zero] at h2
    have e1 : choose f hand = b := h2.symm
    rw [e1]
    repeat' first
      | refine Z0 ?_
      | refine Zx ?_
      | (refine Ze ?_; clear hK K)
      | refine W_reg fun K hK => ?_
      | refine W_drwR rfl mixed (by decide +kernel) fun K hK => ?_
      | refine W_drw mixed (by decide +kernel) fun K hK => ?_
      | (refine Zb ?_ ?_ <;> intro hb <;> first | (simp (disch := omega) only [go_sem] at hb; done) | (simp (disch := omega) only [go_sem] at hb; try omega) | try omega)
      | (refine Zl ?_; intro bn hnil; (try simp (disch := omega) only [go_sem] at hnil); dsimp only [putT, List.set_cons_succ, List.set_cons_zero])
    exact Zr
  · obtain ⟨k, hk⟩ := some_of_lt (l := hand) (i := i) (by omega)
    have e1 : pick (okHand f) (fun k => seats (laneAt f k)) (hand.drop i) = if okHand f k = true ∧ (b < 0 ∨ seats (laneAt f k) ≤ seats (laneAt f b)) then k else b := by
      rw [drop_at hk, pick, ← h2]
    have hb := pick_ok (s := fun k => seats (laneAt f k)) (okHand_ge f) (hand.drop (i + 1))
    rw [← h2] at hb
    rw [show ((i + 1 : Nat) : Int) - 1 = i by omega]
    by_cases ho : 0 ≤ k ∧ k < f.open_ ∧ k < f.lanes.length
    · obtain ⟨h5, h6, h7⟩ := ho
      have o1 : okHand f k = true := decide_eq_true ⟨h5, h6, h7⟩
      have hx := laneAt_get h5 h7
      have c1 := rseats_ok (laneAt f k) (Nat.le_trans (hf.at k).2 (by omega))
      simp only [o1, true_and] at e1
      rcases hb with hb | ⟨hb, hb2⟩
      · rw [if_pos (.inl (by omega))] at e1
        have zz1 := rws_get hk
        have zz2 := rws_get hx
        repeat' first
          | refine Z2 ?_
          | refine Zx ?_
          | refine Zc c1 ?_
          | (refine Ze ?_; clear hK K)
          | refine W_reg fun K hK => ?_
          | refine W_drwR rfl mixed (by decide +kernel) fun K hK => ?_
          | refine W_drw mixed (by decide +kernel) fun K hK => ?_
          | (refine Zb ?_ ?_ <;> intro hb <;> first | (simp (disch := omega) only [go_sem, zz1, zz2] at hb; done) | (simp (disch := omega) only [go_sem, zz1, zz2] at hb; try omega) | try omega)
          | (refine Zl ?_; intro bn hnil; (try simp (disch := omega) only [go_sem, zz1, zz2] at hnil); dsimp only [putT, List.set_cons_succ, List.set_cons_zero])
        all_goals exact L_next ⟨(i, k), by simp, ⟨by simp; omega, e1.symm⟩, (by exact weak_mk wkD wkH wkN wkM (by omega))⟩
      · have h8 := (of_decide_eq_true hb2).2.2
        have hy := laneAt_get hb h8
        have c2 := rseats_ok (laneAt f b) (Nat.le_trans (hf.at b).2 (by omega))
        by_cases h9 : seats (laneAt f k) ≤ seats (laneAt f b)
        · rw [if_pos (.inr h9)] at e1
          have zz1 := rws_get hk
          have zz2 := rws_get hx
          have zz3 := rws_get hy
          repeat' first
            | refine Z3 ?_
            | refine Zx ?_
            | refine Zc c1 ?_
            | refine Zc c2 ?_
            | (refine Ze ?_; clear hK K)
            | refine W_reg fun K hK => ?_
            | refine W_drwR rfl mixed (by decide +kernel) fun K hK => ?_
            | refine W_drw mixed (by decide +kernel) fun K hK => ?_
            | (refine Zb ?_ ?_ <;> intro hb <;> first | (simp (disch := omega) only [go_sem, zz1, zz2, zz3] at hb; done) | (simp (disch := omega) only [go_sem, zz1, zz2, zz3] at hb; try omega) | try omega)
            | (refine Zl ?_; intro bn hnil; (try simp (disch := omega) only [go_sem, zz1, zz2, zz3] at hnil); dsimp only [putT, List.set_cons_succ, List.set_cons_zero])
          all_goals exact L_next ⟨(i, k), by simp, ⟨by simp; omega, e1.symm⟩, (by exact weak_mk wkD wkH wkN wkM (by omega))⟩
        · rw [if_neg (by omega)] at e1
          have zz1 := rws_get hk
          have zz2 := rws_get hx
          have zz3 := rws_get hy
          repeat' first
            | refine Z3 ?_
            | refine Zx ?_
            | refine Zc c1 ?_
            | refine Zc c2 ?_
            | (refine Ze ?_; clear hK K)
            | refine W_reg fun K hK => ?_
            | refine W_drwR rfl mixed (by decide +kernel) fun K hK => ?_
            | refine W_drw mixed (by decide +kernel) fun K hK => ?_
            | (refine Zb ?_ ?_ <;> intro hb <;> first | (simp (disch := omega) only [go_sem, zz1, zz2, zz3] at hb; done) | (simp (disch := omega) only [go_sem, zz1, zz2, zz3] at hb; try omega) | try omega)
            | (refine Zl ?_; intro bn hnil; (try simp (disch := omega) only [go_sem, zz1, zz2, zz3] at hnil); dsimp only [putT, List.set_cons_succ, List.set_cons_zero])
          all_goals exact L_next ⟨(i, b), by simp, ⟨by simp; omega, e1.symm⟩, (by exact weak_mk wkD wkH wkN wkM (by omega))⟩
    · have o1 : okHand f k = false := decide_eq_false ho
      simp only [o1, Bool.false_eq_true, false_and, if_false] at e1
      have zz1 := rws_get hk
      repeat' first
        | refine Z1 ?_
        | refine Zx ?_
        | (refine Ze ?_; clear hK K)
        | refine W_reg fun K hK => ?_
        | refine W_drwR rfl mixed (by decide +kernel) fun K hK => ?_
        | refine W_drw mixed (by decide +kernel) fun K hK => ?_
        | (refine Zb ?_ ?_ <;> intro hb <;> first | (simp (disch := omega) only [go_sem, zz1] at hb; done) | (simp (disch := omega) only [go_sem, zz1] at hb; try omega) | try omega)
        | (refine Zl ?_; intro bn hnil; (try simp (disch := omega) only [go_sem, zz1] at hnil); dsimp only [putT, List.set_cons_succ, List.set_cons_zero])
      all_goals first | (exfalso; omega) | skip
      all_goals exact L_next ⟨(i, b), by simp, ⟨by simp; omega, e1.symm⟩, (by exact weak_mk wkD wkH wkN wkM (by omega))⟩

theorem okNext_lt {f : TFair} {k : Int} (h : okNext f k = true) : k < f.lanes.length := by
  have h0 := okNext_ge f k h
  rcases Int.lt_or_le k f.lanes.length with h1 | h1
  · exact h1
  · have : laneAt f k = zeroL := by rw [laneAt, List.getD_eq_getElem?_getD, List.getElem?_eq_none (by omega)]; rfl
    simp [okNext, this, fin, zeroL] at h

theorem rnext_ok (f : TFair) (hf : okF 1000 1000 f) : PCall Try.prog 59 [.agg (Enc.enc f)] (· = .tuple [.int .i64 (max (next f) 0), .bool (decide (0 ≤ next f))]) := by
  have hn := hf.1
  refine PCall_intro (c := Try.f59.body.getD .skip) Try.func59 rfl (by decide +kernel) Zf (W_start ?_)
  simp only [Try.f59, go_sem]
  repeat' first
    | refine Z0 ?_
    | refine Zx ?_
    | (refine Ze ?_; clear hK K)
    | refine W_reg fun K hK => ?_
    | refine W_drwR rfl mixed (by decide +kernel) fun K hK => ?_
    | refine W_drw mixed (by decide +kernel) fun K hK => ?_
    | (refine Zb ?_ ?_ <;> intro hb <;> first | (simp (disch := omega) only [go_sem] at hb; done) | (simp (disch := omega) only [go_sem] at hb; try omega) | try omega)
    | (refine Zl ?_; intro bn hnil; (try simp (disch := omega) only [go_sem] at hnil); dsimp only [putT, List.set_cons_succ, List.set_cons_zero])
  refine W_foldK (fun (a : Nat × Int) => [none, none, none, none, some (.int .i64 a.2), some (.int .i64 ((a.1 : Int) - 1)), some .junk, some .junk, some .junk, some .junk, none, none, none, none, some .junk, some .junk, some .junk, some .junk, some .junk, some .junk, some .junk, some .junk, some .junk, some .junk, some .junk, some .junk, some .junk, some .junk, some .junk, some .junk, some .junk, some .junk, some .junk, some .junk, some .junk, some .junk, some .junk, some .junk, some .junk, some .junk, some .junk, some .junk, some .junk, some .junk, some .junk, some .junk, some .junk, some .junk]) (fun a => a.1 ≤ f.lanes.length ∧ a.2 = pick (okNext f) (fun k => (fin (laneAt f k) f.guess).1) ((idxs f.lanes.length).drop a.1)) (fun a => a.1) (f.lanes.length, -1) ⟨by simp, by rw [List.drop_of_length_le (by rw [idxs_length]; exact Nat.le_refl _)]; rfl⟩ (by exact weak_mk wkD wkH wkN wkM (by omega)) ?_
  rintro ⟨i, b⟩ ⟨h1, h2⟩
  simp only [] at h1 h2
  simp only [msk_none, msk_some, msk_nil]
  rcases i with _ | i
  · rw [List.drop_zero] at h2
    have e1 : next f = b := h2.symm
    rw [e1]
    rcases Int.lt_or_le b 0 with h5 | h5
    · rw [show max b 0 = 0 by omega, show decide (0 ≤ b) = false by simp; omega]
      repeat' first
        | refine Z0 ?_
        | refine Zx ?_
        | (refine Ze ?_; clear hK K)
        | refine W_reg fun K hK => ?_
        | refine W_drwR rfl mixed (by decide +kernel) fun K hK => ?_
        | refine W_drw mixed (by decide +kernel) fun K hK => ?_
        | (refine Zb ?_ ?_ <;> intro hb <;> first | (simp (disch := omega) only [go_sem] at hb; done) | (simp (disch := omega) only [go_sem] at hb; try omega) | try omega)
        | (refine Zl ?_; intro bn hnil; (try simp (disch := omega) only [go_sem] at hnil); dsimp only [putT, List.set_cons_succ, List.set_cons_zero])
      exact Zr
    · rw [show max b 0 = b by omega, show decide (0 ≤ b) = true by simp; omega]
      repeat' first
        | refine Z0 ?_
        | refine Zx ?_
        | (refine Ze ?_; clear hK K)
        | refine W_reg fun K hK => ?_
        | refine W_drwR rfl mixed (by decide +kernel) fun K hK => ?_
        | refine W_drw mixed (by decide +kernel) fun K hK => ?_
        | (refine Zb ?_ ?_ <;> intro hb <;> first | (simp (disch := omega) only [go_sem] at hb; done) | (simp (disch := omega) only [go_sem] at hb; try omega) | try omega)
        | (refine Zl ?_; intro bn hnil; (try simp (disch := omega) only [go_sem] at hnil); dsimp only [putT, List.set_cons_succ, List.set_cons_zero])
      exact Zr
  · have h4 : i < f.lanes.length := by omega
    obtain ⟨x, hx⟩ := some_of_lt h4
    have l1 := laneAt_nat hx
    have e1 : pick (okNext f) (fun k => (fin (laneAt f k) f.guess).1) ((idxs f.lanes.length).drop i) = if (fin x f.guess).2 = true ∧ (b < 0 ∨ (fin x f.guess).1 ≤ (fin (laneAt f b) f.guess).1) then (i : Int) else b := by
      rw [drop_at (idxs_get h4), pick, ← h2]
      simp only [okNext, l1]
      simp
    have hb := pick_ok (s := fun k => (fin (laneAt f k) f.guess).1) (okNext_ge f) ((idxs f.lanes.length).drop (i + 1))
    rw [← h2] at hb
    have h5 := hf.2 x (List.mem_of_getElem? hx)
    have c1 := rfin_ok x f.guess h5.1 (by omega)
    have c2 := rfin_ok (laneAt f b) f.guess (hf.at b).1 (Nat.le_trans (hf.at b).2 (by omega))
    have hy : 0 ≤ b → f.lanes[b.toNat]? = some (laneAt f b) := fun h => laneAt_get h (okNext_lt (hb.resolve_left (by omega)).2)
    have hb3 : b = -1 ∨ (0 ≤ b ∧ b < f.lanes.length) := hb.imp (fun e => e) fun e => ⟨e.1, okNext_lt e.2⟩
    clear hb l1
    generalize fin x f.guess = F at *
    obtain ⟨F, o⟩ := F
    generalize fin (laneAt f b) f.guess = G at *
    obtain ⟨G, o2⟩ := G
    dsimp only at e1 c1 c2
    rw [show ((i + 1 : Nat) : Int) - 1 = i by omega]
    cases o with
    | true =>
      simp only [true_and] at e1
      rcases hb3 with hb | ⟨hb, hb2⟩
      · rw [if_pos (.inl (by omega))] at e1
        have zz1 := rws_get hx
        repeat' first
          | refine Z1 ?_
          | refine Zx ?_
          | refine Zc c1 ?_
          | (refine Ze ?_; clear hK K)
          | refine W_reg fun K hK => ?_
          | refine W_drwR rfl mixed (by decide +kernel) fun K hK => ?_
          | refine W_drw mixed (by decide +kernel) fun K hK => ?_
          | (refine Zb ?_ ?_ <;> intro hb <;> first | (simp (disch := omega) only [go_sem, zz1] at hb; done) | (simp (disch := omega) only [go_sem, zz1] at hb; try omega) | try omega)
          | (refine Zl ?_; intro bn hnil; (try simp (disch := omega) only [go_sem, zz1] at hnil); dsimp only [putT, List.set_cons_succ, List.set_cons_zero])
        all_goals exact L_next ⟨(i, (i : Int)), by simp, ⟨by simp; omega, e1.symm⟩, (by exact weak_mk wkD wkH wkN wkM (by omega))⟩
      · have hy := hy hb
        by_cases h9 : F ≤ G
        · rw [if_pos (.inr h9)] at e1
          have zz1 := rws_get hx
          have zz2 := rws_get hy
          repeat' first
            | refine Z2 ?_
            | refine Zx ?_
            | refine Zc c1 ?_
            | refine Zc c2 ?_
            | (refine Ze ?_; clear hK K)
            | refine W_reg fun K hK => ?_
            | refine W_drwR rfl mixed (by decide +kernel) fun K hK => ?_
            | refine W_drw mixed (by decide +kernel) fun K hK => ?_
            | (refine Zb ?_ ?_ <;> intro hb <;> first | (simp (disch := omega) only [go_sem, zz1, zz2] at hb; done) | (simp (disch := omega) only [go_sem, zz1, zz2] at hb; try omega) | try omega)
            | (refine Zl ?_; intro bn hnil; (try simp (disch := omega) only [go_sem, zz1, zz2] at hnil); dsimp only [putT, List.set_cons_succ, List.set_cons_zero])
          all_goals exact L_next ⟨(i, (i : Int)), by simp, ⟨by simp; omega, e1.symm⟩, (by exact weak_mk wkD wkH wkN wkM (by omega))⟩
        · rw [if_neg (by omega)] at e1
          have zz1 := rws_get hx
          have zz2 := rws_get hy
          repeat' first
            | refine Z2 ?_
            | refine Zx ?_
            | refine Zc c1 ?_
            | refine Zc c2 ?_
            | (refine Ze ?_; clear hK K)
            | refine W_reg fun K hK => ?_
            | refine W_drwR rfl mixed (by decide +kernel) fun K hK => ?_
            | refine W_drw mixed (by decide +kernel) fun K hK => ?_
            | (refine Zb ?_ ?_ <;> intro hb <;> first | (simp (disch := omega) only [go_sem, zz1, zz2] at hb; done) | (simp (disch := omega) only [go_sem, zz1, zz2] at hb; try omega) | try omega)
            | (refine Zl ?_; intro bn hnil; (try simp (disch := omega) only [go_sem, zz1, zz2] at hnil); dsimp only [putT, List.set_cons_succ, List.set_cons_zero])
          all_goals exact L_next ⟨(i, b), by simp, ⟨by simp; omega, e1.symm⟩, (by exact weak_mk wkD wkH wkN wkM (by omega))⟩
    | false =>
      simp only [Bool.false_eq_true, false_and, if_false] at e1
      have zz1 := rws_get hx
      repeat' first
        | refine Z1 ?_
        | refine Zx ?_
        | refine Zc c1 ?_
        | (refine Ze ?_; clear hK K)
        | refine W_reg fun K hK => ?_
        | refine W_drwR rfl mixed (by decide +kernel) fun K hK => ?_
        | refine W_drw mixed (by decide +kernel) fun K hK => ?_
        | (refine Zb ?_ ?_ <;> intro hb <;> first | (simp (disch := omega) only [go_sem, zz1] at hb; done) | (simp (disch := omega) only [go_sem, zz1] at hb; try omega) | try omega)
        | (refine Zl ?_; intro bn hnil; (try simp (disch := omega) only [go_sem, zz1] at hnil); dsimp only [putT, List.set_cons_succ, List.set_cons_zero])
      all_goals exact L_next ⟨(i, b), by simp, ⟨by simp; omega, e1.symm⟩, (by exact weak_mk wkD wkH wkN wkM (by omega))⟩

end Go.Proofs.Ytdgjelfeclgolaa
