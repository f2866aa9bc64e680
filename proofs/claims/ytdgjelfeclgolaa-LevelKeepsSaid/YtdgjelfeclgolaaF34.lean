/-
  A level: copied, with each list of those who wait in an object of its own; walked.
-/
import Derived.Test.YtdgjelfeclgolaaF33
import Derived.Test.YtdgjelfeclgolaaSF
namespace Go.Proofs.Ytdgjelfeclgolaa
open Go Go.AM
set_option maxHeartbeats 8000000
set_option maxRecDepth 8000
set_option linter.unusedSimpArgs false
set_option linter.unusedVariables false

/-- Who waits in a lane. -/
def fw (L : List TLane) (i : Nat) : List TTicket := (L.getD i zeroL).wait
theorem fw_of {L : List TLane} {i : Nat} {l : TLane} (h : L[i]? = some l) : fw L i = l.wait := by unfold fw; rw [getD_of h]
def refL (B j : Nat) (l : TLane) : List AVal := [.int .u64 l.start, .ref (B + j) l.wait.length 0 l.wait.length false l.wait.length]
def encL (_ : Nat) (l : TLane) : List AVal := Enc.enc l
abbrev stW (s : TState) (a b : AVal) : List AVal := [.str s.level.name, .int .i64 s.level.kind, .int .i64 s.level.shares, .int .i64 s.level.lend, .int .i64 s.level.borrow, .int .i64 s.level.queues, .int .i64 s.level.hand, .int .i64 s.level.length, .int .i64 s.level.wait, .int .i64 s.level.guess,
  .bool s.quiet, .int .i64 s.limit, .int .i64 s.bound.nominal, .int .i64 s.bound.min, .int .i64 s.bound.max, .int .i64 s.demand.high, .int .i64 s.demand.smooth, .int .u64 s.fair.r, .int .i64 s.fair.guess, .int .i64 s.fair.length, .int .i64 s.fair.open_, a, b]

theorem lcopiedF_ok (s : TState) (hf : okF 1000 1000 s.fair) (hr : s.running.length ≤ 2000000) : HCall Try.prog 106 [.agg (Enc.enc s)] [] 0
    (fun r h _ => r = .agg (stW s (.ref 10 s.fair.lanes.length 0 s.fair.lanes.length false s.fair.lanes.length) (.ref 4 s.running.length 0 s.running.length false s.running.length)) ∧
      h = famR 5 (fw s.fair.lanes) 100 s.fair.lanes.length ++ [(10, .arr 2 (rowsI (refL 100) s.fair.lanes)), (4, .arr 5 (rws s.running))]) := by
  have hn := hf.1
  have c0 := clone_ok s.running (by omega)
  have c1 := cloneL_ok s.fair.lanes (by omega)
  refine HCall_intro (c := Try.f106.body.getD .skip) Try.func106 rfl (by decide +kernel) (W_start ?_)
  simp only [Try.f106, go_sem]
  repeat' first
    | refine Z0 ?_
    | refine Zx ?_
    | refine Zw c0 ?_
    | refine Zw c1 ?_
    | (refine Ze ?_; clear hK K)
    | refine W_reg fun K hK => ?_
    | refine W_drwR rfl mixed (by decide +kernel) fun K hK => ?_
    | refine W_drw mixed (by decide +kernel) fun K hK => ?_
    | (refine Zb ?_ ?_ <;> intro hb <;> first | (simp (disch := omega) only [go_sem] at hb; done) | (simp (disch := omega) only [go_sem] at hb; try omega) | try omega)
    | (refine Zl ?_; intro bn hnil; (try simp (disch := omega) only [go_sem] at hnil); dsimp only [putT, List.set_cons_succ, List.set_cons_zero])
  refine W_raise 2000 (by omega) ?_
  refine W_foldMC (fun (i : Nat) => [none, none, none, some .junk, none, none, none, none, none, none, none, none, none, none, none, none, none, none, some (.int .i64 i), some .junk, some .junk, some .junk, some .junk, some .junk, some .junk, some .junk, some .junk, some .junk, some .junk, some .junk, some .junk, some .junk, some .junk, some .junk, some .junk, some .junk])
    (fun i => famR 5 (fw s.fair.lanes) 100 i ++ [(10, .arr 2 (rowsI (mixG (refL 100) encL i) s.fair.lanes)), (4, .arr 5 (rws s.running)), (1, .arr 23 [zrow]), (0, .arr 23 [stW s (.ref 10 s.fair.lanes.length 0 s.fair.lanes.length false s.fair.lanes.length) (.ref 4 s.running.length 0 s.running.length false s.running.length)])])
    (fun i => i ≤ s.fair.lanes.length) (fun i => s.fair.lanes.length - i) 0 (Nat.zero_le _) (by rw [rowsI_zero, show rowsI encL s.fair.lanes = rws s.fair.lanes from rowsI_rws _]; simp only [famR, List.nil_append]; exact (by exact Can.ofWeak (by exact weak_mk wkD wkH wkN wkM (by omega)))) ?_
  rintro i hi
  simp only [msk_none, msk_some, msk_nil]
  rcases Nat.lt_or_ge i s.fair.lanes.length with h4 | h4
  · obtain ⟨x, hx⟩ := some_of_lt h4
    have c2 := clone_ok x.wait (Nat.le_trans (hf.2 x (List.mem_of_getElem? hx)).2 (by omega))
    have xg : (rowsI (mixG (refL 100) encL i) s.fair.lanes)[i]? = some [.int .u64 x.start, .sl (rws x.wait) none] := by rw [rowsI_get hx]; simp [mixG, encL, enc_TLane]
    have zz1 := xg
    repeat' first
      | refine Z1 ?_
      | refine Zx ?_
      | refine Zw c2 ?_
      | (refine Ze ?_; clear hK K)
      | refine W_reg fun K hK => ?_
      | refine W_drwR rfl mixed (by decide +kernel) fun K hK => ?_
      | refine W_drw mixed (by decide +kernel) fun K hK => ?_
      | (refine Zb ?_ ?_ <;> intro hb <;> first | (simp (disch := omega) only [go_sem, zz1] at hb; done) | (simp (disch := omega) only [go_sem, zz1] at hb; try omega) | try omega)
      | (refine Zl ?_; intro bn hnil; (try simp (disch := omega) only [go_sem, zz1] at hnil); dsimp only [putT, List.set_cons_succ, List.set_cons_zero])
    refine L_next ⟨i + 1, by omega, by omega, Can.trans (Can.dropL wkD) (Can.ren (fun j => if j = 2014 then 100 + i else j) ?_ (by
      (try simp only [msk_none, msk_some, msk_nil])
      repeat' first | exact lfL_nil | refine lfL_cons ?_ ?_ | exact lfA_junk _ | exact lfA_sl _ _ _ | exact .leaf _ (.fz _ (.int _ _)) | exact .leaf _ (.fz _ (.bool _)) | exact .leaf _ (.ref _ _ _ _ _ _ (by simp)) | exact .leaf _ (.ptr _ _ _ _ (by simp)) | exact .leaf _ ((lf_aggE _ s).2 trivial)) ?_ ?_ ?_ (by omega) reS ?_ (Can.refl _))⟩
    · intro j k hj hk e
      simp only [List.map_cons, List.map_append, List.map_nil, List.mem_cons, List.mem_append, famR_keys, List.not_mem_nil, or_false] at hj hk
      split at e <;> split at e <;> omega
    · intro e he
      simp only [List.mem_cons, List.mem_append, famR_mem, List.not_mem_nil, or_false] at he
      rcases he with rfl | ⟨j, _, rfl⟩ | rfl | rfl | rfl | rfl
      · simp [lfO_rws]
      · simp [lfO_rws]
      · intro r hr y hy
        rcases List.mem_or_eq_of_mem_set hr with hr | rfl
        · obtain ⟨j, l, hl, rfl⟩ := rowsI_mem hr
          by_cases hji : j < i
          · rw [show mixG (refL 100) encL i j l = refL 100 j l by simp [mixG, hji]] at hy
            simp only [refL, List.mem_cons, List.not_mem_nil, or_false] at hy
            rcases hy with rfl | rfl
            · exact .fz _ (.int _ _)
            · refine .ref _ _ _ _ _ _ ?_
              simp only [List.map_cons, List.map_append, List.mem_cons, List.mem_append, famR_keys]
              omega
          · rw [show mixG (refL 100) encL i j l = Enc.enc l by simp [mixG, hji, encL]] at hy
            exact .fz _ (Enc.fz l y hy)
        · simp only [List.mem_cons, List.not_mem_nil, or_false] at hy
          rcases hy with rfl | rfl
          · exact .fz _ (.int _ _)
          · exact .ref _ _ _ _ _ _ (by simp)
      · simp [lfO_rws]
      · intro r hr y hy
        simp only [List.mem_cons, List.not_mem_nil, or_false] at hr
        subst hr
        refine .fz _ ?_
        simp only [zrow, List.mem_cons, List.not_mem_nil, or_false] at hy
        rcases hy with rfl | rfl | rfl | rfl | rfl | rfl | rfl | rfl | rfl | rfl | rfl | rfl | rfl | rfl | rfl | rfl | rfl | rfl | rfl | rfl | rfl | rfl | rfl
        · exact .str _
        all_goals first | exact .int _ _ | exact .bool _ | exact .sl _ _ (by simp)
      · intro r hr y hy
        simp only [List.mem_cons, List.not_mem_nil, or_false] at hr
        subst hr
        simp only [stW, List.mem_cons, List.not_mem_nil, or_false] at hy
        rcases hy with rfl | rfl | rfl | rfl | rfl | rfl | rfl | rfl | rfl | rfl | rfl | rfl | rfl | rfl | rfl | rfl | rfl | rfl | rfl | rfl | rfl | rfl | rfl
        · exact .fz _ (.str _)
        all_goals first | exact .fz _ (.int _ _) | exact .fz _ (.bool _) | exact .ref _ _ _ _ _ _ (by simp)
    · intro j hj h
      exfalso
      rcases h with h | h <;> exact Nat.not_lt_zero _ h
    · intro j hj
      simp only [List.map_cons, List.map_append, List.map_nil, List.mem_cons, List.mem_append, famR_keys, List.not_mem_nil, or_false] at hj
      split <;> omega
    · have e1 : ∀ r, r ∈ rowsI (mixG (refL 100) encL i) s.fair.lanes → r.map (ren0 fun j => if j = 2014 then 100 + i else j) = r := fun r hr => by
        obtain ⟨j, l, hl, rfl⟩ := rowsI_mem hr
        have hjl := (List.getElem?_eq_some_iff.1 hl).1
        by_cases hji : j < i
        · rw [show mixG (refL 100) encL i j l = refL 100 j l by simp [mixG, hji]]
          simp only [refL, List.map_cons, List.map_nil, ren0]
          rw [if_neg (by omega)]
        · rw [show mixG (refL 100) encL i j l = Enc.enc l by simp [mixG, hji, encL]]
          exact ren_enc _ l
      have e2 : (rowsI (mixG (refL 100) encL i) s.fair.lanes).map (fun r => r.map (ren0 fun j => if j = 2014 then 100 + i else j)) = rowsI (mixG (refL 100) encL i) s.fair.lanes := by
        conv => rhs; rw [← List.map_id (rowsI (mixG (refL 100) encL i) s.fair.lanes)]
        exact List.map_congr_left e1
      have e3 : (rowsI (mixG (refL 100) encL i) s.fair.lanes).set i [.int .u64 x.start, .ref (100 + i) x.wait.length 0 x.wait.length false x.wait.length] = rowsI (mixG (refL 100) encL (i + 1)) s.fair.lanes := rowsI_step (A := refL 100) hx
      simp only [renH, renH_append, famR, List.cons_append, renO, ren_rws, List.map_set, e2, fw_of hx, zrow, stW, List.map_cons, List.map_nil, ren0]
      rw [renH_famR (B' := 100) fun j hj => by rw [if_neg (by omega)]]
      simp only [if_true, ← e3]
      rfl
  · obtain rfl : i = s.fair.lanes.length := by omega
    rw [rowsI_all (Nat.le_refl _)]
    repeat' first
      | refine Z0 ?_
      | refine Zx ?_
      | (refine Ze ?_; clear hK K)
      | refine W_reg fun K hK => ?_
      | refine W_drwR rfl mixed (by decide +kernel) fun K hK => ?_
      | refine W_drw mixed (by decide +kernel) fun K hK => ?_
      | (refine Zb ?_ ?_ <;> intro hb <;> first | (simp (disch := omega) only [go_sem] at hb; done) | (simp (disch := omega) only [go_sem] at hb; try omega) | try omega)
      | (refine Zl ?_; intro bn hnil; (try simp (disch := omega) only [go_sem] at hnil); dsimp only [putT, List.set_cons_succ, List.set_cons_zero])
    refine retF_of (by simp (disch := omega) only [go_sem]; exact rfl) rfl (lk_app (fun id o e => ?_) _)
    by_cases q1 : 10 = id
    · rw [lk_hit q1] at e ⊢; exact e
    · rw [lk_miss q1] at e ⊢
      by_cases q2 : 4 = id
      · rw [lk_hit q2] at e ⊢; exact e
      · rw [lk_miss q2] at e
        cases e

end Go.Proofs.Ytdgjelfeclgolaa
