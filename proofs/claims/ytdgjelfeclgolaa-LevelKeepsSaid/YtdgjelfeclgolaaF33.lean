/-
  A level: who is late in a lane whose list is an object; DeleteFunc; walked.
-/
import Derived.Test.YtdgjelfeclgolaaF32
namespace Go.Proofs.Ytdgjelfeclgolaa
open Go Go.AM
set_option maxHeartbeats 8000000
set_option maxRecDepth 8000
set_option linter.unusedSimpArgs false
set_option linter.unusedVariables false

theorem late0_ok (l : TLane) (now : Int) (hl : l.wait.length ≤ 4294967296) : HCall Try.prog 33 [.agg [.int .u64 l.start, .ref 0 l.wait.length 0 l.wait.length false l.wait.length], .int .i64 now] [(0, .arr 5 (rws l.wait))] 1
    (fun r h _ => r = .sl (rws (late l now)) none ∧ h = [(0, .arr 5 (rws l.wait))]) := by
  have hl0 : (rws l.wait).length = l.wait.length := rws_length _
  refine HCall_intro (c := Try.f33.body.getD .skip) Try.func33 rfl (by decide +kernel) (W_start ?_)
  simp only [Try.f33, go_sem]
  repeat' first
    | refine Z0 ?_
    | refine Zx ?_
    | (refine Ze ?_; clear hK K)
    | refine W_reg fun K hK => ?_
    | refine W_drwR rfl mixed (by decide +kernel) fun K hK => ?_
    | refine W_drw mixed (by decide +kernel) fun K hK => ?_
    | (refine Zb ?_ ?_ <;> intro hb <;> first | (simp (disch := omega) only [go_sem] at hb; done) | (simp (disch := omega) only [go_sem] at hb; try omega) | try omega)
    | (refine Zl ?_; intro bn hnil; (try simp (disch := omega) only [go_sem] at hnil); dsimp only [putT, List.set_cons_succ, List.set_cons_zero])
  (apply W_unbornAt 5 5; (case ht => exact rfl); (case e => exact sT); (case hn => exact nT))
  refine W_foldA (fun id (a : Nat × List TTicket) => [none, none, none, none, none, some (.ref id a.2.length 0 a.2.length false a.2.length), none, some .junk, none, none, none, some (.int .i64 a.1), some .junk, some .junk, some .junk, some .junk, some .junk, some .junk, some .junk, some .junk, some .junk, some .junk, some .junk, some .junk]) (fun a => rws a.2) (fun a => a.1 ≤ l.wait.length ∧ a.2 = (l.wait.take a.1).filter fun t => decide (t.until_ ≤ now)) (fun a => l.wait.length - a.1) (0, []) ⟨by simp, by simp⟩ (by exact weak_mk wkD wkH wkN wkM (by omega)) ?_
  rintro ⟨i, o⟩ ⟨hi, ho⟩
  simp only [] at hi ho
  simp only [msk_none, msk_some, msk_nil]
  have ho2 : o.length ≤ i := by rw [ho]; have := List.length_filter_le (fun t : TTicket => decide (t.until_ ≤ now)) (l.wait.take i); simp at this; omega
  rcases Nat.lt_or_ge i l.wait.length with h4 | h4
  · obtain ⟨x, hx⟩ := some_of_lt h4
    have e1 := filter_take (p := fun t : TTicket => decide (t.until_ ≤ now)) hx
    rw [← ho] at e1
    by_cases hp : x.until_ ≤ now
    · have e2 := rws_snoc o x
      simp only [enc_TTicket] at e2
      have zz1 := rws_get hx
      have zz2 := e2
      have zz3 := hl0
      repeat' first
        | refine Z3 ?_
        | refine Zx ?_
        | (refine Ze ?_; clear hK K)
        | refine W_reg fun K hK => ?_
        | refine W_drwR rfl mixed (by decide +kernel) fun K hK => ?_
        | refine W_drw mixed (by decide +kernel) fun K hK => ?_
        | (refine Zb ?_ ?_ <;> intro hb <;> first | (simp (disch := omega) only [go_sem, zz1, zz2, zz3] at hb; done) | (simp (disch := omega) only [go_sem, zz1, zz2, zz3] at hb; try omega) | try omega)
        | (refine Zl ?_; intro bn hnil; (try simp (disch := omega) only [go_sem, zz1, zz2, zz3] at hnil); dsimp only [putT, List.set_cons_succ, List.set_cons_zero])
      exact L_next ⟨(i + 1, o ++ [x]), by simp; omega, ⟨by simp; omega, by simp [e1, hp]⟩, (by simp only [List.length_append, List.length_cons, List.length_nil, Nat.zero_add]; exact (by exact weak_mk wkD wkH wkN wkM (by omega)))⟩
    · have zz1 := rws_get hx
      have zz2 := hl0
      repeat' first
        | refine Z2 ?_
        | refine Zx ?_
        | (refine Ze ?_; clear hK K)
        | refine W_reg fun K hK => ?_
        | refine W_drwR rfl mixed (by decide +kernel) fun K hK => ?_
        | refine W_drw mixed (by decide +kernel) fun K hK => ?_
        | (refine Zb ?_ ?_ <;> intro hb <;> first | (simp (disch := omega) only [go_sem, zz1, zz2] at hb; done) | (simp (disch := omega) only [go_sem, zz1, zz2] at hb; try omega) | try omega)
        | (refine Zl ?_; intro bn hnil; (try simp (disch := omega) only [go_sem, zz1, zz2] at hnil); dsimp only [putT, List.set_cons_succ, List.set_cons_zero])
      exact L_next ⟨(i + 1, o), by simp; omega, ⟨by simp; omega, by simp [e1, hp]⟩, (by exact weak_mk wkD wkH wkN wkM (by omega))⟩
  · obtain rfl : i = l.wait.length := by omega
    rw [List.take_length] at ho
    have e1 : late l now = o := ho.symm
    rw [e1]
    (apply W_frzT 5 (o); (case ht => exact rfl); (case hl => simp only [go_sem]; exact rfl); (case e => first | rfl | (simp; done) | (simp [rws, Enc.enc]; done)); (case hn => first | rfl | simp); (case e1 => exact subT); (case e2 => exact subU))
    repeat' first
      | refine Z0 ?_
      | refine Zx ?_
      | (refine Ze ?_; clear hK K)
      | refine W_reg fun K hK => ?_
      | refine W_drwR rfl mixed (by decide +kernel) fun K hK => ?_
      | refine W_drw mixed (by decide +kernel) fun K hK => ?_
      | (refine Zb ?_ ?_ <;> intro hb <;> first | (simp (disch := omega) only [go_sem] at hb; done) | (simp (disch := omega) only [go_sem] at hb; try omega) | try omega)
      | (refine Zl ?_; intro bn hnil; (try simp (disch := omega) only [go_sem] at hnil); dsimp only [putT, List.set_cons_succ, List.set_cons_zero])
    exact Zrf

theorem late_F (l : TLane) (now : Int) (n : Nat) (hn : l.wait.length = n) (hl : n ≤ 4294967296) (A : Nat) : FCall Try.prog 33 [.agg [.int .u64 l.start, .ref A n 0 n false n], .int .i64 now] [(A, .arr 5 (rws l.wait))] (.sl (rws (late l now)) none) [(A, .arr 5 (rws l.wait))] := by
  subst hn
  refine FCall.arr (late0_ok l now hl) A (fun x hx => ?_) (.leaf _ ((lf_rws _ _ _).2 trivial)) rfl (renA_fz (rws_fz _ _))
  simp only [List.mem_cons, List.not_mem_nil, or_false] at hx
  rcases hx with rfl | rfl
  · refine .agg _ fun c hc => ?_
    simp only [List.mem_cons, List.not_mem_nil, or_false] at hc
    rcases hc with rfl | rfl
    · exact .fz _ (.int _ _)
    · exact .ref _ _ _ _ _ _ (by simp)
  · exact .leaf _ (.fz _ (.int _ _))

theorem closureL_ok (x : TTicket) (now : Int) : PCall Try.prog 111 [.agg (Enc.enc x), .fp [.int .i64 now]] (· = .bool (decide (x.until_ ≤ now))) := by
  refine PCall_intro (c := Try.f111.body.getD .skip) Try.func111 rfl (by decide +kernel) Zf (W_start ?_)
  simp only [Try.f111, go_sem]
  repeat' first
    | refine Z0 ?_
    | refine Zx ?_
    | (refine Ze ?_; clear hK K)
    | refine W_reg fun K hK => ?_
    | refine W_drwR rfl mixed (by decide +kernel) fun K hK => ?_
    | refine W_drw mixed (by decide +kernel) fun K hK => ?_
    | (refine Zb ?_ ?_ <;> intro hb <;> first | (simp (disch := omega) only [go_sem] at hb; done) | (simp (disch := omega) only [go_sem] at hb; try omega) | try omega)
    | (refine Zl ?_; intro bn hnil; (try simp (disch := omega) only [go_sem] at hnil); dsimp only [putT, List.set_cons_succ, List.set_cons_zero])
  exact Zr

def isLate (now : Int) (t : TTicket) : Bool := decide (t.until_ ≤ now)
def stay (now : Int) (w : List TTicket) : List TTicket := w.filter fun t => !isLate now t
theorem stay_take {now : Int} {w : List TTicket} {i : Nat} {x : TTicket} (h : w[i]? = some x) : stay now (w.take (i + 1)) = stay now (w.take i) ++ if isLate now x = true then [] else [x] := by
  unfold stay
  rw [filter_take h]
  cases isLate now x <;> rfl
theorem stay_len (now : Int) (w : List TTicket) : (stay now w).length ≤ w.length := List.length_filter_le _ _
theorem stay_all {now : Int} {w : List TTicket} (h : ∀ x, x ∈ w → isLate now x = false) : stay now w = w := by
  unfold stay
  exact List.filter_eq_self.2 fun x hx => by rw [h x hx]; rfl
/-- The list behind DeleteFunc: who stays, and zeros. -/
def dele (now : Int) (w : List TTicket) : List TTicket := stay now w ++ List.replicate (w.length - (stay now w).length) zeroT
theorem dele_len (now : Int) (w : List TTicket) : (dele now w).length = w.length := by
  have := stay_len now w
  unfold dele; rw [List.length_append, List.length_replicate]; omega

theorem delf0_ok (w : List TTicket) (now : Int) (hl : w.length ≤ 4294967296) : HCall Try.prog 110 [.ref 0 w.length 0 w.length false w.length, .func (.func 111) [] [.fp [.int .i64 now]]] [(0, .arr 5 (rws w))] 1
    (fun r h _ => r = .ref 0 w.length 0 (stay now w).length false w.length ∧ h = [(0, .arr 5 (rws (dele now w)))]) := by
  have c1 := indexFunc_ok w 111 (.fp [.int .i64 now]) (isLate now) (by unfold maxLen; omega) (by simp [Fz.fp_iff, Fz.int_iff]) fun x _ => closureL_ok x now
  rcases idx_cases (isLate now) w with ⟨b, x, e1, hb, hx, hp, _, hno⟩ | ⟨e1, _, hno⟩
  · rw [e1] at c1
    have hfin : dele now w = dele now w := rfl
    have hst0 : stay now (w.take (b + 1)) = w.take b := by
      rw [stay_take hx, hp, stay_all]
      · simp
      · intro y hy
        obtain ⟨k, hk⟩ := List.getElem?_of_mem hy
        rw [List.getElem?_take] at hk
        split at hk
        · rename_i hkb; exact hno k y hkb hk
        · cases hk
    have hlt : (stay now w).length < w.length := by
      have h1 : stay now w = stay now (w.take (b + 1)) ++ stay now (w.drop (b + 1)) := by unfold stay; rw [← List.filter_append, List.take_append_drop]
      have h2 := stay_len now (w.drop (b + 1))
      rw [h1, List.length_append, hst0, List.length_take]
      rw [List.length_drop] at h2
      omega
    have u1 : (b : Int) + 1 = ((b + 1 : Nat) : Int) := by omega
    refine HCall_intro (c := Try.f110.body.getD .skip) Try.func110 rfl (by decide +kernel) (W_start ?_)
    simp only [Try.f110, go_sem]
    have zz1 := u1
    repeat' first
      | refine Z1 ?_
      | refine Zx ?_
      | refine Zn c1 ?_
      | (refine Ze ?_; clear hK K)
      | refine W_reg fun K hK => ?_
      | refine W_drwR rfl mixed (by decide +kernel) fun K hK => ?_
      | refine W_drw mixed (by decide +kernel) fun K hK => ?_
      | (refine Zb ?_ ?_ <;> intro hb <;> first | (simp (disch := omega) only [go_sem, zz1] at hb; done) | (simp (disch := omega) only [go_sem, zz1] at hb; try omega) | try omega)
      | (refine Zl ?_; intro bn hnil; (try simp (disch := omega) only [go_sem, zz1] at hnil); dsimp only [putT, List.set_cons_succ, List.set_cons_zero])
    refine W_foldM (fun (q : Nat × Nat × List TTicket) => [none, none, none, none, none, some (.int .i64 q.1), some (.int .i64 q.2.1), some .junk, none, none, none, none, none, none, none, none, some .junk, some .junk, some .junk, some .junk, some .junk, some .junk, some .junk, some .junk, some .junk, some .junk, some .junk, some .junk, some .junk, some .junk, some .junk, some .junk, some .junk, some .junk, some .junk, some .junk]) (fun q => [(0, .arr 5 (rws q.2.2))])
      (fun q => q.1 < q.2.1 ∧ q.2.1 ≤ w.length ∧ q.2.2.length = w.length ∧ q.2.2.take q.1 = stay now (w.take q.2.1) ∧ q.2.2.drop q.2.1 = w.drop q.2.1 ∧ q.1 = (stay now (w.take q.2.1)).length) (fun q => w.length - q.2.1) (b, b + 1, w)
      ⟨by simp, by simp only []; omega, rfl, hst0.symm, rfl, by simp only [hst0, List.length_take]; omega⟩ (by exact weak_mk wkD wkH wkN wkM (by omega)) ?_
    rintro ⟨i, j, A⟩ ⟨k1, k2, k3, k4, k5, k6⟩
    simp only [] at k1 k2 k3 k4 k5 k6
    simp only [msk_none, msk_some, msk_nil]
    have hlA : (rws A).length = w.length := by rw [rws_length]; exact k3
    by_cases hj : j < w.length
    · obtain ⟨v, hv⟩ := some_of_lt (show j < w.length by omega)
      have hAv : A[j]? = some v := by
        have q1 : (A.drop j)[0]? = (w.drop j)[0]? := by rw [k5]
        rw [List.getElem?_drop, List.getElem?_drop] at q1
        simpa [hv] using q1
      have c2 := closureL_ok v now
      have e3 := stay_take (now := now) hv
      by_cases hlate : v.until_ ≤ now
      · have q1 : isLate now v = true := by simp [isLate, hlate]
        rw [q1, if_pos rfl, List.append_nil] at e3
        have zz1 := rws_get hAv
        have zz2 := hlA
        repeat' first
          | refine Z2 ?_
          | refine Zx ?_
          | refine Zn c2 ?_
          | (refine Ze ?_; clear hK K)
          | refine W_reg fun K hK => ?_
          | refine W_drwR rfl mixed (by decide +kernel) fun K hK => ?_
          | refine W_drw mixed (by decide +kernel) fun K hK => ?_
          | (refine Zb ?_ ?_ <;> intro hb <;> first | (simp (disch := omega) only [go_sem, zz1, zz2] at hb; done) | (simp (disch := omega) only [go_sem, zz1, zz2] at hb; try omega) | try omega)
          | (refine Zl ?_; intro bn hnil; (try simp (disch := omega) only [go_sem, zz1, zz2] at hnil); dsimp only [putT, List.set_cons_succ, List.set_cons_zero])
        exact L_next ⟨(i, j + 1, A), by simp only []; omega, ⟨by simp only []; omega, by simp only []; omega, k3, by rw [e3]; exact k4, by
          have := congrArg (List.drop 1) k5
          rw [List.drop_drop, List.drop_drop] at this
          exact this, by rw [e3]; exact k6⟩, (by exact weak_mk wkD wkH wkN wkM (by omega))⟩
      · have q1 : isLate now v = false := by simp [isLate]; omega
        rw [q1, if_neg (by simp)] at e3
        have e4 : (rws A).set i (Enc.enc v) = rws (A.set i v) := rws_set _ _ _
        simp only [enc_TTicket] at e4
        have w1 : (i : Int) + 1 = ((i + 1 : Nat) : Int) := by omega
        obtain ⟨y, hy⟩ := some_of_lt (show i < A.length by omega)
        have zz1 := rws_get hAv
        have zz2 := hlA
        have zz3 := e4
        have zz4 := w1
        have zz5 := rws_get hy
        repeat' first
          | refine Z5 ?_
          | refine Zx ?_
          | refine Zn c2 ?_
          | (refine Ze ?_; clear hK K)
          | refine W_reg fun K hK => ?_
          | refine W_drwR rfl mixed (by decide +kernel) fun K hK => ?_
          | refine W_drw mixed (by decide +kernel) fun K hK => ?_
          | (refine Zb ?_ ?_ <;> intro hb <;> first | (simp (disch := omega) only [go_sem, zz1, zz2, zz3, zz4, zz5] at hb; done) | (simp (disch := omega) only [go_sem, zz1, zz2, zz3, zz4, zz5] at hb; try omega) | try omega)
          | (refine Zl ?_; intro bn hnil; (try simp (disch := omega) only [go_sem, zz1, zz2, zz3, zz4, zz5] at hnil); dsimp only [putT, List.set_cons_succ, List.set_cons_zero])
        exact L_next ⟨(i + 1, j + 1, A.set i v), by simp only []; omega, ⟨by simp only []; omega, by simp only []; omega, by simpa using k3, by
          rw [e3, ← k4, List.take_add_one, List.getElem?_set_self (show i < A.length by omega), List.take_set_of_le (Nat.le_refl i)]
          rfl, by
          have := congrArg (List.drop 1) k5
          rw [List.drop_drop, List.drop_drop] at this
          rw [List.drop_set_of_lt (show i < j + 1 by omega)]
          exact this, by rw [e3, List.length_append, ← k6]; rfl⟩, (by exact weak_mk wkD wkH wkN wkM (by omega))⟩
    · obtain rfl : j = w.length := by omega
      rw [List.take_length] at k4 k6
      have r0 : rws (dele now w) = List.take i (rws A) ++ List.replicate (w.length - i) (Enc.enc zeroT) ++ List.drop w.length (rws A) := by
        rw [rws_take, k4, rws_rep, rws_append, rws_drop, List.drop_of_length_le (l := A) (by omega)]
        unfold dele
        rw [← k6]
        simp [rws_nil]
      have r1 := r0.symm
      have d1 : i + (w.length - i) = w.length := by omega
      have d2 : (rws (dele now w)).length = w.length := by rw [rws_length, dele_len]
      simp only [enc_TTicket, zeroT] at r1
      rw [← k6]
      clear c1 u1 hst0 hno hx hp k4 k5 r0
      have zz1 := hlA
      have zz2 := d1
      have zz3 := d2
      have zz4 := r1
      repeat' first
        | refine Z4 ?_
        | refine Zx ?_
        | (refine Ze ?_; clear hK K)
        | refine W_reg fun K hK => ?_
        | refine W_drwR rfl mixed (by decide +kernel) fun K hK => ?_
        | refine W_drw mixed (by decide +kernel) fun K hK => ?_
        | (refine Zb ?_ ?_ <;> intro hb <;> first | (simp (disch := omega) only [go_sem, zz1, zz2, zz3, zz4] at hb; done) | (simp (disch := omega) only [go_sem, zz1, zz2, zz3, zz4] at hb; try omega) | try omega)
        | (refine Zl ?_; intro bn hnil; (try simp (disch := omega) only [go_sem, zz1, zz2, zz3, zz4] at hnil); dsimp only [putT, List.set_cons_succ, List.set_cons_zero])
        | ((with_reducible apply AO_clearE); (case hg => exact gT); (case ho => exact rfl); (case hcb => exact rfl); (case hct => exact rfl); (case hca => exact rfl); (case hx => exact rfl); (case hl => simp only [go_sem]; exact rfl); (case ht => simp only [go_sem]; exact rfl); (case he => simp only [go_sem]; exact rfl); (case hz => simp only [go_sem]; exact rfl); (case hzl => exact rfl); (case hsz => first | omega | (simp (disch := omega) only [go_sem, zz1, zz2, zz3, zz4]; omega) | simp (disch := omega) only [go_sem, zz1, zz2, zz3, zz4]); (case hb => omega); (case hlen => omega); (case hd => exact rfl); (case hh => simp (disch := omega) only [go_sem, zz1, zz2, zz3, zz4]; exact rfl); (case hn => exact nT))
      all_goals exact Zrf
  · rw [e1] at c1
    have e2 : stay now w = w := stay_all hno
    have e3 : dele now w = w := by unfold dele; rw [e2]; simp
    rw [e3, e2]
    refine HCall_intro (c := Try.f110.body.getD .skip) Try.func110 rfl (by decide +kernel) (W_start ?_)
    simp only [Try.f110, go_sem]
    repeat' first
      | refine Z0 ?_
      | refine Zx ?_
      | refine Zn c1 ?_
      | (refine Ze ?_; clear hK K)
      | refine W_reg fun K hK => ?_
      | refine W_drwR rfl mixed (by decide +kernel) fun K hK => ?_
      | refine W_drw mixed (by decide +kernel) fun K hK => ?_
      | (refine Zb ?_ ?_ <;> intro hb <;> first | (simp (disch := omega) only [go_sem] at hb; done) | (simp (disch := omega) only [go_sem] at hb; try omega) | try omega)
      | (refine Zl ?_; intro bn hnil; (try simp (disch := omega) only [go_sem] at hnil); dsimp only [putT, List.set_cons_succ, List.set_cons_zero])
    exact Zrf

theorem delf_F (w : List TTicket) (now : Int) (n : Nat) (hn : w.length = n) (hl : n ≤ 4294967296) (A : Nat) : FCall Try.prog 110 [.ref A n 0 n false n, .func (.func 111) [] [.fp [.int .i64 now]]] [(A, .arr 5 (rws w))]
    (.ref A n 0 (stay now w).length false n) [(A, .arr 5 (rws (dele now w)))] := by
  subst hn
  refine FCall.arr (delf0_ok w now hl) A (fun x hx => ?_) (.leaf _ ((lf_ref _ _ _ _ _ _ _).2 (by simp))) rfl rfl
  simp only [List.mem_cons, List.not_mem_nil, or_false] at hx
  rcases hx with rfl | rfl
  · exact .leaf _ ((lf_ref _ _ _ _ _ _ _).2 (by simp))
  · exact .leaf _ (.fz _ (by simp [Fz.func_iff, Fz.fp_iff, Fz.int_iff]))

end Go.Proofs.Ytdgjelfeclgolaa
