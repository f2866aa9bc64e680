/-
  Limits out of bounds: plain laws (M9), the law BorrowSum walked (F32).
-/
import Derived.Test.YteajjckbjgmhaaaM10
import Derived.Test.YteajjckbjgmhaaaMM
import Derived.Test.YteajjckbjgmhaaaF31
import Derived.Test.YteajjckbjgmhaaaAM48

section
namespace Go.Proofs.Yteajjckbjgmhaaa
set_option linter.unusedVariables false

theorem gt_mem {xs : List Int} {i : Nat} {a : Int} (h : xs[i]? = some a) : gt xs i = a := by simp [gt, List.getD_eq_getElem?_getD, h]

/-- Of bounds that hold there are limits. -/
theorem spr_bounds {total : Int} {l : List Lv} {B : List Bd} (v : BV total l B) {W : List Dm} (hW : W.length = B.length) (hw : ∀ d, d ∈ W → 0 ≤ d.2 ∧ d.2 ≤ 1048576) :
    ∃ xs, spr total (bmin B) (bmax B) (smooth W) = (xs, 0) ∧ xs.length = B.length ∧ xs.sum = total ∧ ∀ (i : Nat) b, B[i]? = some b → b.2.1 ≤ gt xs i ∧ gt xs i ≤ b.2.2 ∧ 0 ≤ gt xs i ∧ gt xs i ≤ 4096 ∧ 0 ≤ b.1 ∧ b.1 ≤ 4096 := by
  have vt := v.t
  have vn := v.n
  have vl := v.len
  have mem : ∀ b, b ∈ B → 0 ≤ b.2.1 ∧ b.2.1 ≤ b.1 ∧ b.1 ≤ b.2.2 ∧ b.2.2 ≤ total := fun b hb => by
    obtain ⟨i, hi⟩ := List.getElem?_of_mem hb
    exact v.row hi
  have t1 : (B.map fun b : Bd => b.1).sum = total := v.sum
  have t2 : (bmin B).sum ≤ total := by rw [← t1]; exact sumle_map fun b hb => (mem b hb).2.1
  have t3 : total ≤ (bmax B).sum := by rw [← t1]; exact sumle_map fun b hb => (mem b hb).2.2.1
  have l1 := bmin_length B
  have l2 := bmax_length B
  have l3 : (smooth W).length = B.length := by simp [smooth, hW]
  have hv : Val total (bmin B) (bmax B) (smooth W) := by
    refine ⟨vt, by omega, by omega, by omega, fun i hi => ?_, t2, t3⟩
    obtain ⟨b, hb⟩ := some_of_lt (show i < B.length by omega)
    obtain ⟨d, hd⟩ := some_of_lt (show i < W.length by omega)
    have g1 : gt (bmin B) i = b.2.1 := gt_map (fun b : Bd => b.2.1) hb
    have g2 : gt (bmax B) i = b.2.2 := gt_map (fun b : Bd => b.2.2) hb
    have g3 : gt (smooth W) i = d.2 := gt_map (fun d : Dm => d.2) hd
    have m := v.row hb
    have m2 := hw d (List.mem_of_getElem? hd)
    rw [g1, g2, g3]
    omega
  have hs : spr total (bmin B) (bmax B) (smooth W) = (run (bmin B) (bmax B) (smooth W) (total - (bmin B).sum).toNat, 0) := by
    unfold spr
    rw [if_neg (by omega), if_neg (by omega), if_neg (by omega), if_neg (by rw [okAll_iff.2 hv.ok]; simp), if_neg (by omega)]
  have r := way_run hv (total - (bmin B).sum).toNat (by omega)
  refine ⟨_, hs, by rw [r.len]; exact l1, by rw [r.sum]; omega, fun i b hb => ?_⟩
  have hi : i < B.length := (List.getElem?_eq_some_iff.1 hb).1
  have h1 := r.le i (by omega)
  have g1 : gt (bmin B) i = b.2.1 := gt_map (fun b : Bd => b.2.1) hb
  have g2 : gt (bmax B) i = b.2.2 := gt_map (fun b : Bd => b.2.2) hb
  rw [g1, g2] at h1
  have m := v.row hb
  omega

theorem bor_lent {ns ls : List Int} : ∀ {i : Nat}, i ≤ ns.length → i ≤ ls.length → borTo ns ls i - lentTo ns ls i = (ls.take i).sum - (ns.take i).sum
  | 0, _, _ => by simp [lentTo, borTo]
  | i + 1, h1, h2 => by
    have ih := bor_lent (ns := ns) (ls := ls) (i := i) (by omega) (by omega)
    rw [take_sum (show i < ns.length by omega), take_sum (show i < ls.length by omega)]
    simp only [lentTo, borTo]
    omega

/-- What is lent is what is borrowed. -/
theorem lent_same {ns ls : List Int} (h : ns.length = ls.length) (hs : ns.sum = ls.sum) : lentTo ns ls ns.length = borTo ns ls ns.length := by
  have := bor_lent (ns := ns) (ls := ls) (i := ns.length) (by omega) (by omega)
  rw [List.take_length, h, List.take_length] at this
  rw [h]
  omega

end Go.Proofs.Yteajjckbjgmhaaa
end

section
namespace Go.Proofs.Yteajjckbjgmhaaa
open Go Go.AM
set_option maxHeartbeats 8000000
set_option maxRecDepth 8000
set_option linter.unusedSimpArgs false
set_option linter.unusedVariables false
attribute [local go_sem] ty3 ty4 ty9 ty22 ty26 ty33 ty34 ty38 eg38 si38 ty39 eg39 si39 ty43 eg43 si43 ty44 eg44 si44 ty51 ty56 eg56 si56 ty57 eg57 si57 ty62 ty63 eg63 si63 ty64 eg64 si64 ty69 ty77
attribute [local go_sem] enc_Lv enc_Bd size_Lv size_Bd

instance : Enc Dm := ⟨fd, 2, fun _ => rfl, fun x y h => by
  simp only [fd, List.mem_cons, List.not_mem_nil, or_false] at h
  rcases h with rfl | rfl
  · exact .int _ _
  · exact .int _ _⟩
theorem enc_Dm (x : Dm) : Enc.enc x = [.int .i64 x.1, .int .i64 x.2] := rfl
theorem size_Dm : Enc.size Dm = 2 := rfl
attribute [local go_sem] enc_Dm size_Dm

/-- What is wanted. -/
def want1 (ds : List Dm) (i : Nat) : Dm := (0, if i < ds.length then min (max (gt (smooth ds) i) 0) 1048576 else 0)
def wants (ds : List Dm) (n : Nat) : List Dm := (List.range n).map (want1 ds)

theorem wants_len (ds : List Dm) (n : Nat) : (wants ds n).length = n := by simp [wants]
attribute [local simp] wants_len
theorem wants_zero (ds : List Dm) : wants ds 0 = [] := rfl
theorem wants_succ (ds : List Dm) (n : Nat) : wants ds (n + 1) = wants ds n ++ [want1 ds n] := by simp [wants, List.range_succ]
theorem wants_ok (ds : List Dm) (n : Nat) (d : Dm) (h : d ∈ wants ds n) : 0 ≤ d.2 ∧ d.2 ≤ 1048576 := by
  simp only [wants, List.mem_map] at h
  obtain ⟨i, _, rfl⟩ := h
  simp only [want1]
  split <;> omega
theorem wants_in {ds : List Dm} {i : Nat} {d : Dm} (h : ds[i]? = some d) : rws (wants ds i) ++ [[.int .i64 0, .int .i64 (min (max d.2 0) 1048576)]] = rws (wants ds (i + 1)) := by
  have h1 : i < ds.length := (List.getElem?_eq_some_iff.1 h).1
  have h2 : gt (smooth ds) i = d.2 := gt_map (fun d : Dm => d.2) h
  have h3 : want1 ds i = (0, min (max d.2 0) 1048576) := by simp only [want1, if_pos h1, h2]
  rw [wants_succ, h3, ← rws_snoc]
  rfl
theorem wants_out {ds : List Dm} {i : Nat} (h : ds.length ≤ i) : rws (wants ds i) ++ [[.int .i64 0, .int .i64 0]] = rws (wants ds (i + 1)) := by
  have h3 : want1 ds i = (0, 0) := by simp only [want1, if_neg (show ¬ i < ds.length by omega)]
  rw [wants_succ, h3, ← rws_snoc]
  rfl

theorem gt_ints {xs : List Int} {i : Nat} (h : i < xs.length) : (ri xs)[i]? = some [.int .i64 (gt xs i)] := ri_get h

theorem sum_ok (total : Int) (l : List Lv) (ds : List Dm) (hl : l.length ≤ 2199023255552) (hd : ds.length ≤ maxLen) : PCall Try.prog 22 [.int .i64 total, .sl (rws l) none, .sl (rws ds) none] (· = .bool true) := by
  have c0 := awake20_ok
  rcases bou_cases total l (by unfold maxLen; omega) with ⟨e, he, h⟩ | ⟨B, h, v⟩
  · have c1 := bounds_bad hl he h
    refine PCall_intro (c := Try.f22.body.getD .skip) Try.func22 rfl (by decide +kernel) Zf (W_start ?_)
    simp only [Try.f22, go_sem]
    repeat' first
      | refine Z0 ?_
      | refine Zx ?_
      | refine Zc c0 ?_
      | refine Zc c1 ?_
      | (refine Ze ?_; clear hK K)
      | refine W_reg fun K hK => ?_
      | refine W_drwR rfl mixed (by decide +kernel) fun K hK => ?_
      | refine W_drw mixed (by decide +kernel) fun K hK => ?_
      | (refine Zb ?_ ?_ <;> intro hb <;> first | (simp (disch := omega) only [go_sem] at hb; done) | (simp (disch := omega) only [go_sem] at hb; try omega) | try omega)
      | (refine Zl ?_; intro bn hnil; (try simp (disch := omega) only [go_sem] at hnil); dsimp only [putT, List.set_cons_succ, List.set_cons_zero])
    exact Zr
  · have c1 := bounds_good hl h
    have vt := v.t
    have vn := v.n
    have vl := v.len
    have row := fun i b x (hb : B[i]? = some b) (hx : l[i]? = some x) => v.shut hx hb
    obtain ⟨xs, hs, x1, x2, x3⟩ := spr_bounds v (W := wants ds B.length) (wants_len ds _) (wants_ok ds _)
    have c2 := limits_ok total B (wants ds B.length) none none (by omega) (by rw [wants_len]; omega)
    rw [hs] at c2
    change PCall Try.prog 30 [.int .i64 total, .sl (rws B) none, .sl (rws (wants ds B.length)) none] (· = .tuple [.sl (ri xs) none, .int .i64 0]) at c2
    have hb0 : ∀ j, j < B.length → 0 ≤ gt (bnom B) j ∧ gt (bnom B) j ≤ 4096 ∧ 0 ≤ gt xs j ∧ gt xs j ≤ 4096 := fun j hj => by
      obtain ⟨b, hb⟩ := Go.AM.some_of_lt hj
      have := x3 j b hb
      rw [show gt (bnom B) j = b.1 from gt_map (fun b : Bd => b.1) hb]
      omega
    have c3 := lent_ok B xs none none (by omega) (by unfold maxLen; omega) (by unfold maxLen; omega) (by rw [x1, Nat.min_self]; exact hb0)
    have c4 : lentTo (bnom B) xs B.length = borTo (bnom B) xs B.length := by
      have := lent_same (ns := bnom B) (ls := xs) (by rw [bnom_length, x1]) (by rw [x2]; exact v.sum)
      rwa [bnom_length] at this
    rw [x1, Nat.min_self, c4] at c3
    generalize borTo (bnom B) xs B.length = z at c3
    change PCall Try.prog 32 [.sl (rws B) none, .sl (ri xs) none] _ at c3
    have wl := wants_len ds B.length
    have rl : (ri xs).length = B.length := by rw [ri_length, x1]
    clear v h hs hb0 c4
    refine PCall_intro (c := Try.f22.body.getD .skip) Try.func22 rfl (by decide +kernel) Zf (W_start ?_)
    simp only [Try.f22, go_sem]
    repeat' first
      | refine Z0 ?_
      | refine Zx ?_
      | refine Zc c0 ?_
      | refine Zc c1 ?_
      | (refine Ze ?_; clear hK K)
      | refine W_reg fun K hK => ?_
      | refine W_drwR rfl mixed (by decide +kernel) fun K hK => ?_
      | refine W_drw mixed (by decide +kernel) fun K hK => ?_
      | (refine Zb ?_ ?_ <;> intro hb <;> first | (simp (disch := omega) only [go_sem] at hb; done) | (simp (disch := omega) only [go_sem] at hb; try omega) | try omega)
      | (refine Zl ?_; intro bn hnil; (try simp (disch := omega) only [go_sem] at hnil); dsimp only [putT, List.set_cons_succ, List.set_cons_zero])
    (apply W_unbornAt 9 2; (case ht => exact rfl); (case e => exact sT); (case hn => exact nT))
    refine W_foldA (fun id (a : Nat) => [none, none, none, none, none, none, none, none, none, some (.ref id a 0 a false a), some (.int .i64 a), some .junk, none, none, none, none, none, none, none, none, none, none, none, none, none, none, none, none, none, none, none, some .junk, some .junk, some .junk, some .junk, some .junk, some .junk, some .junk, some .junk, some .junk, some .junk, some .junk, some .junk, some .junk, some .junk, some .junk, some .junk, some .junk, some .junk, some .junk, some .junk, some .junk, some .junk, some .junk]) (fun a => rws (wants ds a)) (fun a => a ≤ B.length) (fun a => B.length - a) 0 (by simp) (by exact weak_mk wkD wkH wkN wkM (by omega)) ?_
    rintro i hi
    simp only [msk_none, msk_some, msk_nil]
    have w1 := wants_len ds i
    rcases Nat.lt_or_ge i B.length with h4 | h4
    · rcases Nat.lt_or_ge i ds.length with h5 | h5
      · obtain ⟨d, hd1⟩ := Go.AM.some_of_lt h5
        have e1 := wants_in hd1
        have zz1 := rws_get hd1
        have zz2 := e1
        have zz3 := w1
        repeat' first
          | refine Z3 ?_
          | refine Zx ?_
          | (refine Ze ?_; clear hK K)
          | refine W_reg fun K hK => ?_
          | refine W_drwR rfl mixed (by decide +kernel) fun K hK => ?_
          | refine W_drw mixed (by decide +kernel) fun K hK => ?_
          | (refine Zb ?_ ?_ <;> intro hb <;> first | (simp (disch := omega) only [go_sem, zz1, zz2, zz3] at hb; done) | (simp (disch := omega) only [go_sem, zz1, zz2, zz3] at hb; try omega) | try omega)
          | (refine Zl ?_; intro bn hnil; (try simp (disch := omega) only [go_sem, zz1, zz2, zz3] at hnil); dsimp only [putT, List.set_cons_succ, List.set_cons_zero])
        exact L_next ⟨i + 1, by omega, by omega, (by exact weak_mk wkD wkH wkN wkM (by omega))⟩
      · have e1 := wants_out h5
        have zz1 := e1
        have zz2 := w1
        repeat' first
          | refine Z2 ?_
          | refine Zx ?_
          | (refine Ze ?_; clear hK K)
          | refine W_reg fun K hK => ?_
          | refine W_drwR rfl mixed (by decide +kernel) fun K hK => ?_
          | refine W_drw mixed (by decide +kernel) fun K hK => ?_
          | (refine Zb ?_ ?_ <;> intro hb <;> first | (simp (disch := omega) only [go_sem, zz1, zz2] at hb; done) | (simp (disch := omega) only [go_sem, zz1, zz2] at hb; try omega) | try omega)
          | (refine Zl ?_; intro bn hnil; (try simp (disch := omega) only [go_sem, zz1, zz2] at hnil); dsimp only [putT, List.set_cons_succ, List.set_cons_zero])
        exact L_next ⟨i + 1, by omega, by omega, (by exact weak_mk wkD wkH wkN wkM (by omega))⟩
    · obtain rfl : i = B.length := by omega
      repeat' first
        | refine Z0 ?_
        | refine Zx ?_
        | (refine Ze ?_; clear hK K)
        | refine W_regNe 14 (by decide) fun K hK => ?_
        | refine W_drwRNe 14 (by decide) rfl mixed (by decide +kernel) fun K hK => ?_
        | refine W_drwNe 14 (by decide) mixed (by decide +kernel) fun K hK => ?_
        | (refine Zb ?_ ?_ <;> intro hb <;> first | (simp (disch := omega) only [go_sem] at hb; done) | (simp (disch := omega) only [go_sem] at hb; try omega) | try omega)
        | (refine Zl ?_; intro bn hnil; (try simp (disch := omega) only [go_sem] at hnil); dsimp only [putT, List.set_cons_succ, List.set_cons_zero])
      (apply W_frzT 9 (wants ds B.length); (case ht => exact rfl); (case hl => simp only [go_sem]; exact rfl); (case e => first | rfl | (simp; done) | (simp [rws, Enc.enc]; done)); (case hn => first | rfl | simp); (case e1 => exact subT); (case e2 => exact subU))
      have zz1 := rl
      repeat' first
        | refine Z1 ?_
        | refine Zx ?_
        | refine Zc c2 ?_
        | (refine Ze ?_; clear hK K)
        | refine W_reg fun K hK => ?_
        | refine W_drwR rfl mixed (by decide +kernel) fun K hK => ?_
        | refine W_drw mixed (by decide +kernel) fun K hK => ?_
        | (refine Zb ?_ ?_ <;> intro hb <;> first | (simp (disch := omega) only [go_sem, zz1] at hb; done) | (simp (disch := omega) only [go_sem, zz1] at hb; try omega) | try omega)
        | (refine Zl ?_; intro bn hnil; (try simp (disch := omega) only [go_sem, zz1] at hnil); dsimp only [putT, List.set_cons_succ, List.set_cons_zero])
      refine W_foldK (fun (a : Nat × Int) => [none, none, none, none, none, none, some .junk, none, none, none, none, none, none, none, some (.int .i64 a.2), some (.int .i64 a.1), none, none, none, none, none, none, none, none, none, none, none, none, none, none, none, none, none, none, none, none, none, none, none, none, none, none, none, none, none, none, none, none, none, none, none, none, none, none, none, none, none, none, none, none, none, none, none, none, none, none, none, none, none, none, some .junk, some .junk, some .junk, some .junk, some .junk, some .junk, some .junk, some .junk, some .junk, some .junk, some .junk, some .junk, some .junk, some .junk, some .junk, some .junk, some .junk, some .junk, some .junk, some .junk, some .junk, some .junk, some .junk, some .junk, some .junk, some .junk, some .junk, some .junk, some .junk, some .junk, some .junk, some .junk, some .junk, some .junk, some .junk, some .junk, some .junk, some .junk, some .junk, some .junk, some .junk, some .junk, some .junk, some .junk, some .junk, some .junk, some .junk, some .junk, some .junk, some .junk, some .junk, some .junk, some .junk, some .junk, some .junk, some .junk, some .junk, some .junk, some .junk, some .junk, some .junk, some .junk]) (fun a => a.1 ≤ B.length ∧ a.2 = (xs.take a.1).sum ∧ 0 ≤ a.2 ∧ a.2 ≤ 4096 * a.1) (fun a => B.length - a.1) (0, 0) ⟨by simp, by simp, by simp, by simp⟩ (by exact weak_mk wkD wkH wkN wkM (by omega)) ?_
      rintro ⟨i, s⟩ ⟨hi, h1, h2, h3⟩
      simp only [] at hi h1 h2 h3
      simp only [msk_none, msk_some, msk_nil]
      rcases Nat.lt_or_ge i B.length with h4 | h4
      · obtain ⟨b, hb⟩ := Go.AM.some_of_lt h4
        obtain ⟨x, hx⟩ := Go.AM.some_of_lt (l := l) (i := i) (by omega)
        have r := row i b x hb hx
        have r2 := x3 i b hb
        have e1 := take_sum (xs := xs) (i := i) (by omega)
        have f1 := gt_ints (xs := xs) (i := i) (by omega)
        generalize gt xs i = m at *
        have zz1 := rws_get hb
        have zz2 := rws_get hx
        have zz3 := f1
        have zz4 := rl
        repeat' first
          | refine Z4 ?_
          | refine Zx ?_
          | (refine Ze ?_; clear hK K)
          | refine W_reg fun K hK => ?_
          | refine W_drwR rfl mixed (by decide +kernel) fun K hK => ?_
          | refine W_drw mixed (by decide +kernel) fun K hK => ?_
          | (refine Zb ?_ ?_ <;> intro hb <;> first | (simp (disch := omega) only [go_sem, zz1, zz2, zz3, zz4] at hb; done) | (simp (disch := omega) only [go_sem, zz1, zz2, zz3, zz4] at hb; try omega) | try omega)
          | (refine Zl ?_; intro bn hnil; (try simp (disch := omega) only [go_sem, zz1, zz2, zz3, zz4] at hnil); dsimp only [putT, List.set_cons_succ, List.set_cons_zero])
        all_goals first | (exfalso; omega) | skip
        all_goals exact L_next ⟨(i + 1, s + m), by simp; omega, ⟨by simp; omega, by (first | (simp; omega) | omega), by (first | (simp; omega) | omega), by (first | (simp; omega) | omega)⟩, (by exact weak_mk wkD wkH wkN wkM (by omega))⟩
      · obtain rfl : i = B.length := by omega
        rw [List.take_of_length_le (by omega)] at h1
        rw [x2] at h1
        have zz1 := rl
        repeat' first
          | refine Z1 ?_
          | refine Zx ?_
          | refine Zc c3 ?_
          | (refine Ze ?_; clear hK K)
          | refine W_reg fun K hK => ?_
          | refine W_drwR rfl mixed (by decide +kernel) fun K hK => ?_
          | refine W_drw mixed (by decide +kernel) fun K hK => ?_
          | (refine Zb ?_ ?_ <;> intro hb <;> first | (simp (disch := omega) only [go_sem, zz1] at hb; done) | (simp (disch := omega) only [go_sem, zz1] at hb; try omega) | try omega)
          | (refine Zl ?_; intro bn hnil; (try simp (disch := omega) only [go_sem, zz1] at hnil); dsimp only [putT, List.set_cons_succ, List.set_cons_zero])
        exact Zr

theorem rd_Dm : RdC Try.prog 44 (fun ys => ∃ x : Dm, ys = Enc.enc x ∧ True) := by
  refine RdC.mono (rd_struct Try.underlying44 (show RdS Try.prog [3, 3] _ from (rd_cons (rd_i64 Try.underlying3) (rd_cons (rd_i64 Try.underlying3) rd_nil)))) ?_
  rintro ys ⟨_, _, rfl, ⟨x0, rfl, h0⟩, ⟨_, _, rfl, ⟨x1, rfl, h1⟩, rfl⟩⟩
  exact ⟨⟨x0, x1⟩, rfl, trivial⟩

end Go.Proofs.Yteajjckbjgmhaaa
end
