/-
  HeapApart; walked.
-/
import Derived.Test.YtfbmbjfcgoahfaaF19
namespace Go.Proofs.Ytfbmbjfcgoahfaa
open Go Go.AM
set_option maxHeartbeats 8000000
set_option maxRecDepth 8000
set_option linter.unusedSimpArgs false
set_option linter.unusedVariables false

theorem heapApart_ok (l : List TItem) (hl : l.length ≤ maxLen) (hw : ∀ x, x ∈ l → x.wf) : PCall Try.prog 11 [.sl (rws l) none] (· = .bool true) := by
  have c0 := awake4_ok
  unfold maxLen at hl
  refine PCall_intro (c := Try.f11.body.getD .skip) Try.func11 rfl (by decide +kernel) Zf (W_start ?_)
  simp only [Try.f11, go_sem]
  repeat' first
    | refine Z0 ?_
    | refine Zx ?_
    | refine Zc c0 ?_
    | refine Zbn new_N ?_
    | (refine Ze ?_; clear hK K)
    | refine W_reg fun K hK => ?_
    | refine W_drwR rfl mixed (by decide +kernel) fun K hK => ?_
    | refine W_drw mixed (by decide +kernel) fun K hK => ?_
    | (refine Zb ?_ ?_ <;> intro hb <;> first | (simp (disch := omega) only [go_sem] at hb; done) | (simp (disch := omega) only [go_sem] at hb; try omega) | try omega)
    | (refine Zl ?_; intro bn hnil; (try simp (disch := omega) only [go_sem] at hnil); dsimp only [putT, List.set_cons_succ, List.set_cons_zero])
  refine W_foldM (fun (a : Nat × HS × List TItem) => [none, none, none, none, some (.int .i64 a.1), none, none, none, none, none, none, none, none, none, none, none, none, none, some .junk, some .junk, some .junk, some .junk, some .junk, some .junk, some .junk, some .junk, some .junk, some .junk, some .junk, some .junk, some .junk, some .junk, some .junk, some .junk]) (fun a => hobs 6 8 4 a.2.1) (fun a => a.1 ≤ l.length ∧ a.1 ≤ 200 ∧ View a.2.1 a.2.2) (fun a => 200 - a.1) (0, newS, []) ⟨by omega, by omega, View.new⟩ (by exact weak_mk wkD wkH wkN wkM (by omega)) ?_
  rintro ⟨i, s, L⟩ ⟨h1, h2, v⟩
  simp only [] at h1 h2 v
  have hs := v.small4
  simp only [msk_none, msk_some, msk_nil]
  by_cases hi : i < l.length ∧ i < 200
  · obtain ⟨x, hx⟩ := some_of_lt hi.1
    obtain ⟨s', v', c1⟩ := push_V v x (hw x (List.mem_of_getElem? hx))
    have c1 := c1 (H := 6) (a := 8) (m := 4) (by decide)
    have zz1 := rws_get hx
    repeat' first
      | refine Z1 ?_
      | refine Zx ?_
      | refine Zfc c1 ?_
      | (refine Ze ?_; clear hK K)
      | refine W_reg fun K hK => ?_
      | refine W_drwR rfl mixed (by decide +kernel) fun K hK => ?_
      | refine W_drw mixed (by decide +kernel) fun K hK => ?_
      | (refine Zb ?_ ?_ <;> intro hb <;> first | (simp (disch := omega) only [go_sem, zz1] at hb; done) | (simp (disch := omega) only [go_sem, zz1] at hb; try omega) | try omega)
      | (refine Zl ?_; intro bn hnil; (try simp (disch := omega) only [go_sem, zz1] at hnil); dsimp only [putT, List.set_cons_succ, List.set_cons_zero])
    all_goals exact L_next ⟨(i + 1, s', (pushL L x).1), by simp; omega, ⟨by simp; omega, by simp; omega, v'⟩, (by exact weak_mk wkD wkH wkN wkM (by omega))⟩
  · have c1 := list_N v (H := 6) (a := 8) (m := 4) (by decide)
    have hn := v.n
    have hln : (rws L).length = L.length := rws_length _
    rw [hn] at c1
    have t0 : (rws L).take L.length = rws L := List.take_of_length_le (by rw [hln]; omega)
    have zz1 := hln
    have zz2 := t0
    repeat' first
      | refine Z2 ?_
      | refine Zx ?_
      | refine Zfn c1 ?_
      | (refine Ze ?_; clear hK K)
      | refine W_reg fun K hK => ?_
      | refine W_drwR rfl mixed (by decide +kernel) fun K hK => ?_
      | refine W_drw mixed (by decide +kernel) fun K hK => ?_
      | (refine Zb ?_ ?_ <;> intro hb <;> first | (simp (disch := omega) only [go_sem, zz1, zz2] at hb; done) | (simp (disch := omega) only [go_sem, zz1, zz2] at hb; try omega) | try omega)
      | (refine Zl ?_; intro bn hnil; (try simp (disch := omega) only [go_sem, zz1, zz2] at hnil); dsimp only [putT, List.set_cons_succ, List.set_cons_zero])
    all_goals
      refine W_foldM (fun (q : Nat × List TItem) => [none, none, none, none, none, none, none, some (.int .i64 q.1), none, none, none, none, none, none, none, none, none, none, none, none, none, none, none, none, none, none, none, none, none, none, none, none, none, none, none, none, none, none, none, some .junk, some .junk, some .junk, some .junk, some .junk, some .junk, some .junk, some .junk, some .junk, some .junk, some .junk, some .junk]) (fun q => (22, .arr 2 (rws L)) :: (20, .arr 2 (rws q.2)) :: hobs 6 8 4 s) (fun q => q.1 ≤ L.length ∧ q.2.length = L.length) (fun q => L.length - q.1) (0, L) ⟨by simp, rfl⟩ (by exact weak_mk wkD wkH wkN wkM (by omega)) ?_
      rintro ⟨j, A⟩ ⟨k1, k2⟩
      simp only [] at k1 k2
      simp only [msk_none, msk_some, msk_nil]
      by_cases hj : j < L.length
      · have e1 : (rws A).set j [.int .u64 1, .int .i64 (-5 - (j : Int))] = rws (A.set j ⟨1, -5 - (j : Int)⟩) := rws_set _ _ (⟨1, -5 - (j : Int)⟩ : TItem)
        have e2 : (rws A).length = L.length := by rw [rws_length]; exact k2
        obtain ⟨y, hy⟩ := some_of_lt (show j < A.length by omega)
        have zz1 := e1
        have zz2 := e2
        have zz3 := rws_get hy
        repeat' first
          | refine Z3 ?_
          | refine Zx ?_
          | (refine Ze ?_; clear hK K)
          | refine W_reg fun K hK => ?_
          | refine W_drwR rfl mixed (by decide +kernel) fun K hK => ?_
          | refine W_drw mixed (by decide +kernel) fun K hK => ?_
          | (refine Zb ?_ ?_ <;> intro hb <;> first | (simp (disch := omega) only [go_sem, zz1, zz2, zz3] at hb; done) | (simp (disch := omega) only [go_sem, zz1, zz2, zz3] at hb; try omega) | try omega)
          | (refine Zl ?_; intro bn hnil; (try simp (disch := omega) only [go_sem, zz1, zz2, zz3] at hnil); dsimp only [putT, List.set_cons_succ, List.set_cons_zero])
        exact L_next ⟨(j + 1, A.set j ⟨1, -5 - (j : Int)⟩), by simp; omega, ⟨by simp; omega, by simpa using k2⟩, (by exact weak_mk wkD wkH wkN wkM (by omega))⟩
      · have d1 := nil_peek
        have d2 := nil_pop
        have d3 := nil_get 1
        have d4 := nil_push zItem
        have d5 := nil_remove 1
        have d6 := nil_change zItem
        have d7 := nil_len
        have d8 := nil_list
        have d9 := list_V v (H := 6) (a := 8) (m := 4) (by decide)
        have d0 := same_ok L L (by omega) (by omega)
        rw [decide_eq_true (rfl : L = L)] at d0
        simp only [enc_TItem, zItem] at d4 d6
        (apply W_frzI 22 (L) (L.length); (case hl => simp only [go_sem]; exact rfl); (case e => first | rfl | (simp; done) | (simp [rws, Enc.enc]; done)); (case hn => first | rfl | (simp; done) | omega); (case e1 => exact subT); (case e2 => exact subU))
        repeat' first
          | refine Z0 ?_
          | refine Zx ?_
          | refine Zc d1 ?_
          | refine Zc d2 ?_
          | refine Zc d3 ?_
          | refine Zc d4 ?_
          | refine Zc d5 ?_
          | refine Zc d6 ?_
          | refine Zc d7 ?_
          | refine Zu d8 ?_
          | refine Zfc d9 ?_
          | refine Zc d0 ?_
          | (refine Ze ?_; clear hK K)
          | refine W_reg fun K hK => ?_
          | refine W_drwR rfl mixed (by decide +kernel) fun K hK => ?_
          | refine W_drw mixed (by decide +kernel) fun K hK => ?_
          | (refine Zb ?_ ?_ <;> intro hb <;> first | (simp (disch := omega) only [go_sem] at hb; done) | (simp (disch := omega) only [go_sem] at hb; try omega) | try omega)
          | (refine Zl ?_; intro bn hnil; (try simp (disch := omega) only [go_sem] at hnil); dsimp only [putT, List.set_cons_succ, List.set_cons_zero])
        exact Zr

end Go.Proofs.Ytfbmbjfcgoahfaa
