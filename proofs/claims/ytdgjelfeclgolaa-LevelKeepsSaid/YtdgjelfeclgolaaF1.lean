/-
  Lanes: numbers that stop at a cap, widths, works; lists that are cloned, searched, and cut; walked.
-/
import Derived.Test.YtdgjelfeclgolaaTab
import Derived.Test.YtdgjelfeclgolaaAME
namespace Go.Proofs.Ytdgjelfeclgolaa
open Go Go.AM
set_option maxHeartbeats 2000000
set_option linter.unusedSimpArgs false
set_option linter.unusedVariables false

def cap : Int := 4611686018427387904

theorem in_ok (a : Int) : PCall Try.prog 97 [.int .u64 a] (· = .int .u64 (min a 4611686018427387904)) := by
  refine PCall_intro (c := Try.f97.body.getD .skip) Try.func97 rfl (by decide +kernel) Zf (W_start ?_)
  simp only [Try.f97, go_sem]
  repeat' first
    | refine Z0 ?_
    | refine Zx ?_
    | (refine Ze ?_; clear hK K)
    | refine W_reg fun K hK => ?_
    | refine W_drwR rfl mixed (by decide +kernel) fun K hK => ?_
    | refine W_drw mixed (by decide +kernel) fun K hK => ?_
    | (refine Zb ?_ ?_ <;> intro hb <;> first | (simp (disch := omega) only [go_sem] at hb; done) | (simp (disch := omega) only [go_sem] at hb; try omega) | try omega)
    | (refine Zl ?_; intro bn hnil; (try simp (disch := omega) only [go_sem] at hnil); dsimp only [putT, List.set_cons_succ, List.set_cons_zero])
  exact Zr

/-- A sum that stops at the cap. -/
def add (a b : Int) : Int := min (min a cap + min b cap) cap

theorem add_ok (a b : Int) (ha : 0 ≤ a) (hb : 0 ≤ b) : PCall Try.prog 26 [.int .u64 a, .int .u64 b] (· = .int .u64 (add a b)) := by
  have c1 := in_ok a
  have c2 := in_ok b
  have c3 := in_ok (min a 4611686018427387904 + min b 4611686018427387904)
  refine PCall_intro (c := Try.f26.body.getD .skip) Try.func26 rfl (by decide +kernel) Zf (W_start ?_)
  simp only [Try.f26, go_sem]
  repeat' first
    | refine Z0 ?_
    | refine Zx ?_
    | refine Zc c1 ?_
    | refine Zc c2 ?_
    | refine Zc c3 ?_
    | (refine Ze ?_; clear hK K)
    | refine W_reg fun K hK => ?_
    | refine W_drwR rfl mixed (by decide +kernel) fun K hK => ?_
    | refine W_drw mixed (by decide +kernel) fun K hK => ?_
    | (refine Zb ?_ ?_ <;> intro hb <;> first | (simp (disch := omega) only [go_sem] at hb; done) | (simp (disch := omega) only [go_sem] at hb; try omega) | try omega)
    | (refine Zl ?_; intro bn hnil; (try simp (disch := omega) only [go_sem] at hnil); dsimp only [putT, List.set_cons_succ, List.set_cons_zero])
  exact Zr

def wid (n : Int) : Int := min (max n 1) 16
def gue (n : Int) : Int := min (max n 1) 1000
def work (t : TTicket) (g : Int) : Int := wid t.width * gue g

theorem width_ok (t : TTicket) : PCall Try.prog 93 [.agg (Enc.enc t)] (· = .int .i64 (wid t.width)) := by
  refine PCall_intro (c := Try.f93.body.getD .skip) Try.func93 rfl (by decide +kernel) Zf (W_start ?_)
  simp only [Try.f93, go_sem]
  repeat' first
    | refine Z0 ?_
    | refine Zx ?_
    | (refine Ze ?_; clear hK K)
    | refine W_reg fun K hK => ?_
    | refine W_drwR rfl mixed (by decide +kernel) fun K hK => ?_
    | refine W_drw mixed (by decide +kernel) fun K hK => ?_
    | (refine Zb ?_ ?_ <;> intro hb <;> first | (simp (disch := omega) only [go_sem] at hb; done) | (simp (disch := omega) only [go_sem] at hb; try omega) | try omega)
    | (refine Zl ?_; intro bn hnil; (try simp (disch := omega) only [go_sem] at hnil); dsimp only [putT, List.set_cons_succ, List.set_cons_zero])
  exact Zr

theorem wid_le (n : Int) : 1 ≤ wid n ∧ wid n ≤ 16 := by unfold wid; omega
theorem gue_le (n : Int) : 1 ≤ gue n ∧ gue n ≤ 1000 := by unfold gue; omega
theorem mul_bounds {a b : Int} (ha : 1 ≤ a ∧ a ≤ 16) (hb : 1 ≤ b ∧ b ≤ 1000) : 1 ≤ a * b ∧ a * b ≤ 16000 := by
  have h1 := Int.mul_le_mul ha.1 hb.1 (by omega) (by omega)
  have h2 := Int.mul_le_mul ha.2 hb.2 (by omega) (by omega)
  omega
theorem work_le (t : TTicket) (g : Int) : 1 ≤ work t g ∧ work t g ≤ 16000 := mul_bounds (wid_le _) (gue_le _)

theorem work_ok (t : TTicket) (g : Int) : PCall Try.prog 96 [.agg (Enc.enc t), .int .i64 g] (· = .int .u64 (work t g)) := by
  have c1 := width_ok t
  have b1 : 1 ≤ wid t.width * min (max g 1) 1000 ∧ wid t.width * min (max g 1) 1000 ≤ 16000 := work_le t g
  refine PCall_intro (c := Try.f96.body.getD .skip) Try.func96 rfl (by decide +kernel) Zf (W_start ?_)
  simp only [Try.f96, go_sem]
  repeat' first
    | refine Z0 ?_
    | refine Zx ?_
    | refine Zc c1 ?_
    | (refine Ze ?_; clear hK K)
    | refine W_reg fun K hK => ?_
    | refine W_drwR rfl mixed (by decide +kernel) fun K hK => ?_
    | refine W_drw mixed (by decide +kernel) fun K hK => ?_
    | (refine Zb ?_ ?_ <;> intro hb <;> first | (simp (disch := omega) only [go_sem] at hb; done) | (simp (disch := omega) only [go_sem] at hb; try omega) | try omega)
    | (refine Zl ?_; intro bn hnil; (try simp (disch := omega) only [go_sem] at hnil); dsimp only [putT, List.set_cons_succ, List.set_cons_zero])
  exact Zr

theorem clone_ok (b : List TTicket) (hl : b.length ≤ 4294967296) : PNew Try.prog 90 [.sl (rws b) none] (fun j => .ref j b.length 0 b.length false b.length) (.arr 5 (rws b)) := by
  refine PNew_body (c := Try.f90.body.getD .skip) Try.func90 rfl (by decide +kernel) Zf (.ref _ _ _ _ _) (rws_mem _) (W_start ?_)
  simp only [Try.f90, go_sem]
  repeat' first
    | refine Z0 ?_
    | refine Zx ?_
    | (refine Ze ?_; clear hK K)
    | refine W_reg fun K hK => ?_
    | refine W_drwR rfl mixed (by decide +kernel) fun K hK => ?_
    | refine W_drw mixed (by decide +kernel) fun K hK => ?_
    | (refine Zb ?_ ?_ <;> intro hb <;> first | (simp (disch := omega) only [go_sem] at hb; done) | (simp (disch := omega) only [go_sem] at hb; try omega) | try omega)
    | (refine Zl ?_; intro bn hnil; (try simp (disch := omega) only [go_sem] at hnil); dsimp only [putT, List.set_cons_succ, List.set_cons_zero])
  · obtain rfl : b = [] := by
      rcases hnil with h | h
      · exact List.length_eq_zero_iff.1 h
      · rw [hb] at h; cases h
    (apply retU_nil 2 5; (case ht => exact rfl); (case e => exact sT); (case h => simp (disch := omega) only [go_sem]; exact rfl); (case h2 => exact rfl); (case h3 => first | (simp only [go_sem]; done) | (simp only [go_sem]; exact rfl)))
  · exact Zrw

theorem closure_ok (x : TTicket) (id : Int) : PCall Try.prog 95 [.agg (Enc.enc x), .fp [.int .i64 id]] (· = .bool (x.iD == id)) := by
  refine PCall_intro (c := Try.f95.body.getD .skip) Try.func95 rfl (by decide +kernel) Zf (W_start ?_)
  simp only [Try.f95, go_sem]
  repeat' first
    | refine Z0 ?_
    | refine Zx ?_
    | (refine Ze ?_; clear hK K)
    | refine W_reg fun K hK => ?_
    | refine W_drwR rfl mixed (by decide +kernel) fun K hK => ?_
    | refine W_drw mixed (by decide +kernel) fun K hK => ?_
    | (refine Zb ?_ ?_ <;> intro hb <;> first | (simp (disch := omega) only [go_sem] at hb; done) | (simp (disch := omega) only [go_sem] at hb; try omega) | try omega)
    | (refine Zl ?_; intro bn hnil; (try simp (disch := omega) only [go_sem] at hnil); dsimp only [putT, List.set_cons_succ, List.set_cons_zero])
  exact Zr

theorem indexFunc_ok (l : List TTicket) (g : Nat) (c : AVal) (p : TTicket → Bool) (hl : l.length ≤ maxLen) (hz : Fz c) (hp : ∀ x, x ∈ l → PCall Try.prog g [.agg (Enc.enc x), c] (· = .bool (p x))) :
    PCall Try.prog 94 [.sl (rws l) none, .func (.func g) [] [c]] (· = .int .i64 (idx p l)) := by
  unfold maxLen at hl
  refine PCall_intro (c := Try.f94.body.getD .skip) Try.func94 rfl (by decide +kernel) (by simp [rws_fz_iff, Fz.func_iff, hz]) (W_start ?_)
  simp only [Try.f94, go_sem]
  repeat' first
    | refine Z0 ?_
    | refine Zx ?_
    | (refine Ze ?_; clear hK K)
    | refine W_reg fun K hK => ?_
    | refine W_drwR rfl mixed (by decide +kernel) fun K hK => ?_
    | refine W_drw mixed (by decide +kernel) fun K hK => ?_
    | (refine Zb ?_ ?_ <;> intro hb <;> first | (simp (disch := omega) only [go_sem] at hb; done) | (simp (disch := omega) only [go_sem] at hb; try omega) | try omega)
    | (refine Zl ?_; intro bn hnil; (try simp (disch := omega) only [go_sem] at hnil); dsimp only [putT, List.set_cons_succ, List.set_cons_zero])
  refine W_foldK (fun (i : Nat) => [none, none, none, none, some .junk, some .junk, none, none, some (.int .i64 i), some .junk, some .junk, some .junk, some .junk, some .junk, some .junk, some .junk, some .junk, some .junk, some .junk]) (fun i => i ≤ l.length ∧ ∀ k x, k < i → l[k]? = some x → p x = false) (fun i => l.length - i) 0 ⟨by omega, by omega⟩ (by exact weak_mk wkD wkH (by simp [nmL, msk, nm_junk, nm_int, nm_func, rws_nm_iff, hz.nm]) wkM (by omega)) ?_
  rintro i ⟨hi, hno⟩
  simp only [msk_none, msk_some, msk_nil]
  rcases Nat.lt_or_ge i l.length with h4 | h4
  · obtain ⟨x, hx⟩ := some_of_lt h4
    have c1 := hp x (List.mem_of_getElem? hx)
    have zz1 := rws_get hx
    repeat' first
      | refine Z1 ?_
      | refine Zx ?_
      | refine Zc c1 ?_
      | (refine Ze ?_; clear hK K)
      | refine W_reg fun K hK => ?_
      | refine W_drwR rfl mixed (by decide +kernel) fun K hK => ?_
      | refine W_drw mixed (by decide +kernel) fun K hK => ?_
      | (refine Zb ?_ ?_ <;> intro hb <;> first | (simp (disch := omega) only [go_sem, zz1] at hb; done) | (simp (disch := omega) only [go_sem, zz1] at hb; try omega) | try omega)
      | (refine Zl ?_; intro bn hnil; (try simp (disch := omega) only [go_sem, zz1] at hnil); dsimp only [putT, List.set_cons_succ, List.set_cons_zero])
    · rw [idx_at hx hb hno]
      exact Zr
    · exact L_next ⟨i + 1, by omega, ⟨by omega, no_step hx hb hno⟩, (by exact weak_mk wkD wkH (by simp [nmL, msk, nm_junk, nm_int, nm_func, rws_nm_iff, hz.nm]) wkM (by omega))⟩
  · repeat' first
      | refine Z0 ?_
      | refine Zx ?_
      | (refine Ze ?_; clear hK K)
      | refine W_reg fun K hK => ?_
      | refine W_drwR rfl mixed (by decide +kernel) fun K hK => ?_
      | refine W_drw mixed (by decide +kernel) fun K hK => ?_
      | (refine Zb ?_ ?_ <;> intro hb <;> first | (simp (disch := omega) only [go_sem] at hb; done) | (simp (disch := omega) only [go_sem] at hb; try omega) | try omega)
      | (refine Zl ?_; intro bn hnil; (try simp (disch := omega) only [go_sem] at hnil); dsimp only [putT, List.set_cons_succ, List.set_cons_zero])
    obtain rfl : i = l.length := by omega
    rw [idx_none hno]
    exact Zr

end Go.Proofs.Ytdgjelfeclgolaa
