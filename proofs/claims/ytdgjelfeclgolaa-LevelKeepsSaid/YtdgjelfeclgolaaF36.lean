/-
  A level: Late; walked.
-/
import Derived.Test.YtdgjelfeclgolaaF35
namespace Go.Proofs.Ytdgjelfeclgolaa
open Go Go.AM
set_option maxHeartbeats 8000000
set_option maxRecDepth 8000
set_option linter.unusedSimpArgs false
set_option linter.unusedVariables false

theorem renR5 (s : TState) : renA (fun i => 5 + i) (.agg (stW s (.ref 10 s.fair.lanes.length 0 s.fair.lanes.length false s.fair.lanes.length) (.ref 4 s.running.length 0 s.running.length false s.running.length))) =
    .agg (stW s (.ref 15 s.fair.lanes.length 0 s.fair.lanes.length false s.fair.lanes.length) (.ref 9 s.running.length 0 s.running.length false s.running.length)) := rfl
theorem renN5 (s : TState) (hp : Heap) : renH (fun i => 5 + i) (famR 5 (fw s.fair.lanes) 100 s.fair.lanes.length ++ [(10, .arr 2 (rowsI (refL 100) s.fair.lanes)), (4, .arr 5 (rws s.running))]) ++ hp =
    famR 5 (fw s.fair.lanes) 105 s.fair.lanes.length ++ ((15, .arr 2 (rowsI (refL 105) s.fair.lanes)) :: (9, .arr 5 (rws s.running)) :: hp) := renN s 5 hp

abbrev lits (s : TState) (rows : List (List AVal)) : Heap := [(15, .arr 2 rows), (9, .arr 5 (rws s.running)), (2, .arr 23 [zrow]), (0, .arr 23 [stW s (.ref 15 s.fair.lanes.length 0 s.fair.lanes.length false s.fair.lanes.length) (.ref 9 s.running.length 0 s.running.length false s.running.length)])]
theorem nm_lits (s : TState) {m : Nat} {rows : List (List AVal)} (hr : ∀ r, r ∈ rows → ∀ x, x ∈ r → Nm (Lt m) x) (hm : 16 ≤ m) : nmH m (lits s rows) := by
  refine ⟨by show 15 < m; omega, hr, by show 9 < m; omega, fun r hr x hx => Fz.nm (rws_mem _ r hr x hx) _, by show 2 < m; omega, fun r hr x hx => ?_, by show 0 < m; omega, fun r hr x hx => ?_, trivial⟩
  · simp only [List.mem_cons, List.not_mem_nil, or_false] at hr
    subst hr
    simp only [zrow, List.mem_cons, List.not_mem_nil, or_false] at hx
    rcases hx with rfl | rfl | rfl | rfl | rfl | rfl | rfl | rfl | rfl | rfl | rfl | rfl | rfl | rfl | rfl | rfl | rfl | rfl | rfl | rfl | rfl | rfl | rfl
    · exact .str _
    all_goals first | exact .int _ _ | exact .bool _ | exact .sl _ _ (by simp)
  · simp only [List.mem_cons, List.not_mem_nil, or_false] at hr
    subst hr
    simp only [stW, List.mem_cons, List.not_mem_nil, or_false] at hx
    rcases hx with rfl | rfl | rfl | rfl | rfl | rfl | rfl | rfl | rfl | rfl | rfl | rfl | rfl | rfl | rfl | rfl | rfl | rfl | rfl | rfl | rfl | rfl | rfl
    · exact .str _
    all_goals first | exact .int _ _ | exact .bool _ | exact .ref _ _ _ _ _ _ (by show _ < m; omega)
theorem nm_refL (L : List TLane) (m : Nat) (h : 105 + L.length ≤ m) : ∀ r, r ∈ rowsI (refL 105) L → ∀ x, x ∈ r → Nm (Lt m) x := fun r hr x hx => by
  obtain ⟨j, l, hl, rfl⟩ := rowsI_mem hr
  have := (List.getElem?_eq_some_iff.1 hl).1
  simp only [refL, List.mem_cons, List.not_mem_nil, or_false] at hx
  rcases hx with rfl | rfl
  · exact .int _ _
  · exact .ref _ _ _ _ _ _ (by show 105 + j < m; omega)
def fd (now : Int) (L : List TLane) (i k : Nat) : List TTicket := if k < i then dele now (fw L k) else fw L k
theorem nm_mix (L : List TLane) (now : Int) (i m : Nat) (h : 105 + L.length ≤ m) : ∀ r, r ∈ rowsI (mixG (refK now 105) (refL 105) i) L → ∀ x, x ∈ r → Nm (Lt m) x := fun r hr x hx => by
  obtain ⟨j, l, hl, rfl⟩ := rowsI_mem hr
  have := (List.getElem?_eq_some_iff.1 hl).1
  unfold mixG at hx
  split at hx
  all_goals
    simp only [refL, refK, List.mem_cons, List.not_mem_nil, or_false] at hx
    rcases hx with rfl | rfl
    · exact .int _ _
    · exact .ref _ _ _ _ _ _ (by show 105 + j < m; omega)
theorem sub_box {b : Nat} {ob : Ob} {H : Heap} (h : lk H b = none) : ∀ id o, lk H id = some o → lk ((b, ob) :: H) id = some o := fun id o e => by
  by_cases q : b = id
  · subst q; rw [h] at e; cases e
  · rw [lk_miss q]; exact e

def cmpZ (a b : Int) : Int := if a < b then -1 else if a > b then 1 else 0
theorem isnan_ok (a : Int) : PCall Try.prog 119 [.int .i64 a] (· = .bool false) := by
  refine PCall_intro (c := Try.f119.body.getD .skip) Try.func119 rfl (by decide +kernel) Zf (W_start ?_)
  simp only [Try.f119, go_sem]
  repeat' first
    | refine Z0 ?_
    | refine Zx ?_
    | (refine Ze ?_; clear hK K)
    | refine W_reg fun K hK => ?_
    | refine W_drwR rfl mixed (by decide +kernel) fun K hK => ?_
    | refine W_drw mixed (by decide +kernel) fun K hK => ?_
    | (refine Zb ?_ ?_ <;> intro hb <;> first | (simp (disch := omega) only [go_sem] at hb; done) | (simp (disch := omega) only [go_sem] at hb; try omega) | try omega)
    | (refine Zl ?_; intro bn hnil; (try simp (disch := omega) only [go_sem] at hnil); dsimp only [putT, List.set_cons_succ, List.set_cons_zero])
  exact Zr
theorem cmpZ_ok (a b : Int) : PCall Try.prog 115 [.int .i64 a, .int .i64 b] (· = .int .i64 (cmpZ a b)) := by
  have c1 := isnan_ok a
  have c2 := isnan_ok b
  unfold cmpZ
  by_cases h1 : a < b
  · rw [if_pos h1]
    refine PCall_intro (c := Try.f115.body.getD .skip) Try.func115 rfl (by decide +kernel) Zf (W_start ?_)
    simp only [Try.f115, go_sem]
    repeat' first
      | refine Z0 ?_
      | refine Zx ?_
      | refine Zc c1 ?_
      | refine Zc c2 ?_
      | (refine Ze ?_; clear hK K)
      | refine W_reg fun K hK => ?_
      | refine W_drwR rfl mixed (by decide +kernel) fun K hK => ?_
      | refine W_drw mixed (by decide +kernel) fun K hK => ?_
      | (refine Zb ?_ ?_ <;> intro hb <;> first | (simp (disch := omega) only [go_sem] at hb; done) | (simp (disch := omega) only [go_sem] at hb; try omega) | try omega)
      | (refine Zl ?_; intro bn hnil; (try simp (disch := omega) only [go_sem] at hnil); dsimp only [putT, List.set_cons_succ, List.set_cons_zero])
    all_goals exact Zr
  · rw [if_neg h1]
    by_cases h2 : a > b
    · rw [if_pos h2]
      refine PCall_intro (c := Try.f115.body.getD .skip) Try.func115 rfl (by decide +kernel) Zf (W_start ?_)
      simp only [Try.f115, go_sem]
      repeat' first
        | refine Z0 ?_
        | refine Zx ?_
        | refine Zc c1 ?_
        | refine Zc c2 ?_
        | (refine Ze ?_; clear hK K)
        | refine W_reg fun K hK => ?_
        | refine W_drwR rfl mixed (by decide +kernel) fun K hK => ?_
        | refine W_drw mixed (by decide +kernel) fun K hK => ?_
        | (refine Zb ?_ ?_ <;> intro hb <;> first | (simp (disch := omega) only [go_sem] at hb; done) | (simp (disch := omega) only [go_sem] at hb; try omega) | try omega)
        | (refine Zl ?_; intro bn hnil; (try simp (disch := omega) only [go_sem] at hnil); dsimp only [putT, List.set_cons_succ, List.set_cons_zero])
      all_goals exact Zr
    · rw [if_neg h2]
      refine PCall_intro (c := Try.f115.body.getD .skip) Try.func115 rfl (by decide +kernel) Zf (W_start ?_)
      simp only [Try.f115, go_sem]
      repeat' first
        | refine Z0 ?_
        | refine Zx ?_
        | refine Zc c1 ?_
        | refine Zc c2 ?_
        | (refine Ze ?_; clear hK K)
        | refine W_reg fun K hK => ?_
        | refine W_drwR rfl mixed (by decide +kernel) fun K hK => ?_
        | refine W_drw mixed (by decide +kernel) fun K hK => ?_
        | (refine Zb ?_ ?_ <;> intro hb <;> first | (simp (disch := omega) only [go_sem] at hb; done) | (simp (disch := omega) only [go_sem] at hb; try omega) | try omega)
        | (refine Zl ?_; intro bn hnil; (try simp (disch := omega) only [go_sem] at hnil); dsimp only [putT, List.set_cons_succ, List.set_cons_zero])
      all_goals exact Zr
theorem cmpT_ok : CmpOk 114 (fun x y => cmpZ x.iD y.iD) := by
  intro x y
  have c1 := cmpZ_ok x.iD y.iD
  refine PCall_intro (c := Try.f114.body.getD .skip) Try.func114 rfl (by decide +kernel) Zf (W_start ?_)
  simp only [Try.f114, go_sem]
  repeat' first
    | refine Z0 ?_
    | refine Zx ?_
    | refine Zc c1 ?_
    | (refine Ze ?_; clear hK K)
    | refine W_reg fun K hK => ?_
    | refine W_drwR rfl mixed (by decide +kernel) fun K hK => ?_
    | refine W_drw mixed (by decide +kernel) fun K hK => ?_
    | (refine Zb ?_ ?_ <;> intro hb <;> first | (simp (disch := omega) only [go_sem] at hb; done) | (simp (disch := omega) only [go_sem] at hb; try omega) | try omega)
    | (refine Zl ?_; intro bn hnil; (try simp (disch := omega) only [go_sem] at hnil); dsimp only [putT, List.set_cons_succ, List.set_cons_zero])
  exact Zr
theorem cmpT_key (x y : TTicket) : cmpZ x.iD y.iD < 0 ↔ x.iD < y.iD := by
  unfold cmpZ
  split
  · simp [*]
  · split <;> omega

theorem late_none {f : TFair} {now : Int} (h : lateL f now = []) : lateF f now = f := by
  have h1 : ∀ l, l ∈ f.lanes → keepL now l = l := fun l hl => by
    have h2 : late l now = [] := by
      unfold lateL at h
      rw [List.flatMap_eq_nil_iff] at h
      exact h l hl
    unfold late at h2
    rw [List.filter_eq_nil_iff] at h2
    unfold keepL
    have h3 : (l.wait.filter fun t => !decide (t.until_ ≤ now)) = l.wait := List.filter_eq_self.2 fun t ht => by simpa using h2 t ht
    rw [h3]
  have h4 : f.lanes.map (keepL now) = f.lanes := by
    conv => rhs; rw [← List.map_id f.lanes]
    exact List.map_congr_left h1
  unfold lateF
  rw [h4]

theorem llate_ok (s : TState) (now : Int) (hf : okF 1000 1000 s.fair) (hr : s.running.length ≤ 2000000) : PCall Try.prog 80 [.agg (Enc.enc s), .int .i64 now] (· = stL (llate s now)) := by
  refine PCall_intro (c := Try.f80.body.getD .skip) Try.func80 rfl (by decide +kernel) Zf (W_start ?_)
  simp only [Try.f80, go_sem]
  have hn := hf.1
  repeat' first
    | refine Z0 ?_
    | refine Zx ?_
    | (refine Ze ?_; clear hK K)
    | refine W_regNe 1 (by decide) fun K hK => ?_
    | refine W_drwRNe 1 (by decide) rfl mixed (by decide +kernel) fun K hK => ?_
    | refine W_drwNe 1 (by decide) mixed (by decide +kernel) fun K hK => ?_
    | (refine Zb ?_ ?_ <;> intro hb <;> first | (simp (disch := omega) only [go_sem] at hb; done) | (simp (disch := omega) only [go_sem] at hb; try omega) | try omega)
    | (refine Zl ?_; intro bn hnil; (try simp (disch := omega) only [go_sem] at hnil); dsimp only [putT, List.set_cons_succ, List.set_cons_zero])
  apply W_freeze (h2 := [(2, .arr 23 [zrow]), (0, .arr 23 [stW s (.sl (rws s.fair.lanes) none) (.sl (rws s.running) none)])])
  case hsub =>
    intro id ob e
    by_cases q2 : 2 = id
    · rw [lk_hit q2] at e ⊢; exact e
    · rw [lk_miss q2] at e ⊢
      by_cases q0 : 0 = id
      · rw [lk_hit q0] at e; rw [lk_miss (by omega), lk_hit q0]; exact e
      · rw [lk_miss q0] at e; cases e
  case hf =>
    apply FzL.keep
    apply FzL.keep
    apply FzL.keep
    apply FzL.ptr1 (id := 1) (r := [.int .i64 now]) rfl rfl (by simp [Fz.int_iff])
    repeat' first
      | exact FzL.nil
      | apply FzL.keep
  repeat' first
    | refine Z0 ?_
    | refine Zx ?_
    | (refine Ze ?_; clear hK K)
    | refine W_reg fun K hK => ?_
    | refine W_drwR rfl mixed (by decide +kernel) fun K hK => ?_
    | refine W_drw mixed (by decide +kernel) fun K hK => ?_
    | (refine Zb ?_ ?_ <;> intro hb <;> first | (simp (disch := omega) only [go_sem] at hb; done) | (simp (disch := omega) only [go_sem] at hb; try omega) | try omega)
    | (refine Zl ?_; intro bn hnil; (try simp (disch := omega) only [go_sem] at hnil); dsimp only [putT, List.set_cons_succ, List.set_cons_zero])
  (with_reducible apply AO_bornE); (case hg => exact gT); (case ho => exact rfl); (case ht => exact rfl); (case hc => exact lcopied_N s hf hr); (case hy => exact renR5 s); (case hh => exact renN5 s _); (case htm => exact pT); (case hn => exact nT)
  repeat' first
    | refine Z0 ?_
    | refine Zx ?_
    | (refine Ze ?_; clear hK K)
    | refine W_reg fun K hK => ?_
    | refine W_drwR rfl mixed (by decide +kernel) fun K hK => ?_
    | refine W_drw mixed (by decide +kernel) fun K hK => ?_
    | (refine Zb ?_ ?_ <;> intro hb <;> first | (simp (disch := omega) only [go_sem] at hb; done) | (simp (disch := omega) only [go_sem] at hb; try omega) | try omega)
    | (refine Zl ?_; intro bn hnil; (try simp (disch := omega) only [go_sem] at hnil); dsimp only [putT, List.set_cons_succ, List.set_cons_zero])
  (apply W_unbornAt 6 5; (case ht => exact rfl); (case e => exact sT); (case hn => exact nT))
  refine W_foldMC (fun (a : Nat × List TTicket) => [none, none, none, none, none, none, some (.ref 2012 a.2.length 0 a.2.length false a.2.length), none, some .junk, none, none, none, none, none, none, none, none, some (.int .i64 a.1), some .junk, some .junk, some .junk, some .junk, some .junk, some .junk, some .junk, some .junk, some .junk])
    (fun a => (2012, .arr 5 (rws a.2)) :: (famR 5 (fw s.fair.lanes) 105 s.fair.lanes.length ++ lits s (rowsI (refL 105) s.fair.lanes)))
    (fun a => a.1 ≤ s.fair.lanes.length ∧ a.2 = (s.fair.lanes.take a.1).flatMap (fun l => late l now) ∧ a.2.length ≤ 1000 * a.1) (fun a => s.fair.lanes.length - a.1) (0, []) ⟨Nat.zero_le _, by simp, by simp⟩
    (Can.ofWeak (weak_mk wkD (fun _ _ e => e) wkN ⟨by simp only [] <;> omega, fun r hr x hx => Fz.nm (rws_mem _ r hr x hx) _, nmH_famR (nm_lits s (nm_refL _ _ (by omega)) (by omega)) (by omega)⟩ (by omega))) ?_
  rintro ⟨i, out⟩ ⟨k1, k2, k3⟩
  simp only [] at k1 k2 k3
  simp only [msk_none, msk_some, msk_nil]
  rcases Nat.lt_or_ge i s.fair.lanes.length with h4 | h4
  · obtain ⟨x, hx⟩ := some_of_lt h4
    have hw := (hf.2 x (List.mem_of_getElem? hx)).2
    have xg : (rowsI (refL 105) s.fair.lanes)[i]? = some [.int .u64 x.start, .ref (105 + i) x.wait.length 0 x.wait.length false x.wait.length] := rowsI_get hx
    have c1 := late_F x now _ rfl (by omega) (105 + i)
    have zl : ∀ h : Heap, lk (famR 5 (fw s.fair.lanes) 105 s.fair.lanes.length ++ h) (105 + i) = some (.arr 5 (rws x.wait)) := fun h => by rw [lk_famR h4, fw_of hx]
    have zh : ∀ h : Heap, hset (famR 5 (fw s.fair.lanes) 105 s.fair.lanes.length ++ h) (105 + i) (.arr 5 (rws x.wait)) = famR 5 (fw s.fair.lanes) 105 s.fair.lanes.length ++ h := fun h => hset_id (zl h)
    have r1 : rws out ++ rws (late x now) = rws (out ++ late x now) := rws_append _ _
    have r2 : (late x now).length ≤ 1000 := Nat.le_trans (List.length_filter_le _ _) hw
    have r3 : (out ++ late x now).length = out.length + (late x now).length := List.length_append
    have r4 : (s.fair.lanes.take (i + 1)).flatMap (fun l => late l now) = out ++ late x now := by rw [List.take_add_one, hx, List.flatMap_append, ← k2]; simp
    unfold lits
    have zz1 := xg
    repeat' first
      | refine Z1 ?_
      | refine Zx ?_
      | (refine Ze ?_; clear hK K)
      | refine W_reg fun K hK => ?_
      | refine W_drwR rfl mixed (by decide +kernel) fun K hK => ?_
      | refine W_drw mixed (by decide +kernel) fun K hK => ?_
      | (refine Zb ?_ ?_ <;> intro hb <;> first | (simp (disch := omega) only [go_sem, zz1] at hb; done) | (simp (disch := omega) only [go_sem, zz1] at hb; try omega) | try omega)
      | (refine Zl ?_; intro bn hnil; (try simp (disch := omega) only [go_sem, zz1] at hnil); dsimp only [putT, List.set_cons_succ, List.set_cons_zero])
    (with_reducible apply AO_fcallE); (case hg => exact gT); (case ho => exact rfl); (case ht => exact rfl); (case hc => exact c1); (case hL => simp (disch := omega) only [allIn, zl, go_sem]); (case hh => (simp (disch := omega) only [upds, zh, go_sem]; exact rfl)); (case htm => exact pT); (case hn => exact nT)
    have zz1 := r1
    repeat' first
      | refine Z1 ?_
      | refine Zx ?_
      | (refine Ze ?_; clear hK K)
      | refine W_reg fun K hK => ?_
      | refine W_drwR rfl mixed (by decide +kernel) fun K hK => ?_
      | refine W_drw mixed (by decide +kernel) fun K hK => ?_
      | (refine Zb ?_ ?_ <;> intro hb <;> first | (simp (disch := omega) only [go_sem, zz1] at hb; done) | (simp (disch := omega) only [go_sem, zz1] at hb; try omega) | try omega)
      | (refine Zl ?_; intro bn hnil; (try simp (disch := omega) only [go_sem, zz1] at hnil); dsimp only [putT, List.set_cons_succ, List.set_cons_zero])
    exact L_next ⟨(i + 1, out ++ late x now), by simp only []; omega, ⟨by simp only []; omega, r4.symm, by simp only [r3]; omega⟩,
      Can.ofWeak (weak_mk (by simp only [r3]; exact wkD) (sub_box (by rw [lk_miss (by omega), lk_famR_over (by omega)]; rfl)) wkN ⟨by simp only [] <;> omega, fun r hr x hx => Fz.nm (rws_mem _ r hr x hx) _, nmH_famR (nm_lits s (nm_refL _ _ (by omega)) (by omega)) (by omega)⟩ (by omega))⟩
  · obtain rfl : i = s.fair.lanes.length := by omega
    rw [List.take_length] at k2
    have k2 : out = lateL s.fair now := k2
    clear k1 h4
    unfold lits
    repeat' first
      | refine Z0 ?_
      | refine Zx ?_
      | (refine Ze ?_; clear hK K)
      | refine W_reg fun K hK => ?_
      | refine W_drwR rfl mixed (by decide +kernel) fun K hK => ?_
      | refine W_drw mixed (by decide +kernel) fun K hK => ?_
      | (refine Zb ?_ ?_ <;> intro hb <;> first | (simp (disch := omega) only [go_sem] at hb; done) | (simp (disch := omega) only [go_sem] at hb; try omega) | try omega)
      | (refine Zl ?_; intro bn hnil; (try simp (disch := omega) only [go_sem] at hnil); dsimp only [putT, List.set_cons_succ, List.set_cons_zero])
    refine W_foldMC (fun (a : Nat) => [none, none, none, none, none, none, none, none, none, some .junk, some .junk, none, none, none, none, none, none, none, none, none, none, none, none, none, none, none, none, none, none, none, none, some (.int .i64 a), some .junk, some .junk, some .junk, some .junk, some .junk, some .junk, some .junk, some .junk, some .junk, some .junk, some .junk, some .junk, some .junk, some .junk, some .junk, some .junk])
      (fun a => (2012, .arr 5 (rws out)) :: (famR 5 (fd now s.fair.lanes a) 105 s.fair.lanes.length ++ lits s (rowsI (mixG (refK now 105) (refL 105) a) s.fair.lanes)))
      (fun a => a ≤ s.fair.lanes.length) (fun a => s.fair.lanes.length - a) 0 (Nat.zero_le _)
      (Can.ofWeak (weak_mk wkD (by rw [rowsI_zero, famR_congr (f := fd now s.fair.lanes 0) (g := fw s.fair.lanes) fun k _ => if_neg (Nat.not_lt_zero k)]; exact fun _ _ e => e) wkN ⟨by omega, fun r hr x hx => Fz.nm (rws_mem _ r hr x hx) _, nmH_famR (nm_lits s (nm_mix _ _ _ _ (by omega)) (by omega)) (by omega)⟩ (by omega))) ?_
    rintro i k1
    simp only [msk_none, msk_some, msk_nil]
    rcases Nat.lt_or_ge i s.fair.lanes.length with h4 | h4
    · obtain ⟨x, hx⟩ := some_of_lt h4
      have hw := (hf.2 x (List.mem_of_getElem? hx)).2
      have xg : (rowsI (mixG (refK now 105) (refL 105) i) s.fair.lanes)[i]? = some [.int .u64 x.start, .ref (105 + i) x.wait.length 0 x.wait.length false x.wait.length] := by rw [rowsI_get hx]; simp [mixG, refL]
      have xs : (rowsI (mixG (refK now 105) (refL 105) i) s.fair.lanes).set i [.int .u64 x.start, .ref (105 + i) x.wait.length 0 (stay now x.wait).length false x.wait.length] = rowsI (mixG (refK now 105) (refL 105) (i + 1)) s.fair.lanes := rowsI_step (A := refK now 105) hx
      have c1 := delf_F x.wait now _ rfl (by omega) (105 + i)
      have zl : ∀ h : Heap, lk (famR 5 (fd now s.fair.lanes i) 105 s.fair.lanes.length ++ h) (105 + i) = some (.arr 5 (rws x.wait)) := fun h => by rw [lk_famR h4]; simp [fd, fw_of hx]
      have zh : ∀ h : Heap, hset (famR 5 (fd now s.fair.lanes i) 105 s.fair.lanes.length ++ h) (105 + i) (.arr 5 (rws (dele now x.wait))) = famR 5 (fd now s.fair.lanes (i + 1)) 105 s.fair.lanes.length ++ h := fun h => by
        rw [hset_famR h4]
        congr 1
        refine famR_congr fun k hk => ?_
        unfold fd
        by_cases e : k = i
        · subst e; rw [if_pos rfl, if_pos (by omega), fw_of hx]
        · rw [if_neg e]
          by_cases e2 : k < i
          · rw [if_pos e2, if_pos (by omega)]
          · rw [if_neg e2, if_neg (by omega)]
      unfold lits
      have zz1 := xg
      repeat' first
        | refine Z1 ?_
        | refine Zx ?_
        | (refine Ze ?_; clear hK K)
        | refine W_reg fun K hK => ?_
        | refine W_drwR rfl mixed (by decide +kernel) fun K hK => ?_
        | refine W_drw mixed (by decide +kernel) fun K hK => ?_
        | (refine Zb ?_ ?_ <;> intro hb <;> first | (simp (disch := omega) only [go_sem, zz1] at hb; done) | (simp (disch := omega) only [go_sem, zz1] at hb; try omega) | try omega)
        | (refine Zl ?_; intro bn hnil; (try simp (disch := omega) only [go_sem, zz1] at hnil); dsimp only [putT, List.set_cons_succ, List.set_cons_zero])
      (with_reducible apply AO_fcallE); (case hg => exact gT); (case ho => exact rfl); (case ht => exact rfl); (case hc => exact c1); (case hL => simp (disch := omega) only [allIn, zl, go_sem]); (case hh => (simp (disch := omega) only [upds, zh, go_sem]; exact rfl)); (case htm => exact pT); (case hn => exact nT)
      have zz1 := xg
      have zz2 := xs
      repeat' first
        | refine Z2 ?_
        | refine Zx ?_
        | (refine Ze ?_; clear hK K)
        | refine W_reg fun K hK => ?_
        | refine W_drwR rfl mixed (by decide +kernel) fun K hK => ?_
        | refine W_drw mixed (by decide +kernel) fun K hK => ?_
        | (refine Zb ?_ ?_ <;> intro hb <;> first | (simp (disch := omega) only [go_sem, zz1, zz2] at hb; done) | (simp (disch := omega) only [go_sem, zz1, zz2] at hb; try omega) | try omega)
        | (refine Zl ?_; intro bn hnil; (try simp (disch := omega) only [go_sem, zz1, zz2] at hnil); dsimp only [putT, List.set_cons_succ, List.set_cons_zero])
      exact L_next ⟨i + 1, by omega, by omega, Can.ofWeak (weak_mk wkD (fun _ _ e => e) wkN ⟨by omega, fun r hr x hx => Fz.nm (rws_mem _ r hr x hx) _, nmH_famR (nm_lits s (nm_mix _ _ _ _ (by omega)) (by omega)) (by omega)⟩ (by omega))⟩
    · obtain rfl : i = s.fair.lanes.length := by omega
      rw [rowsI_all (Nat.le_refl _)]
      have zl : ∀ (h : Heap) j, j < s.fair.lanes.length → lk (famR 5 (fd now s.fair.lanes s.fair.lanes.length) 105 s.fair.lanes.length ++ h) (105 + j) = some (.arr 5 (rws (dele now (fw s.fair.lanes j)))) := fun h j hj => by rw [lk_famR hj]; simp [fd, hj]
      have cs := ssf_F cmpT_ok cmpT_key out _ rfl (by omega) 2012
      have ls : (ss (fun t : TTicket => t.iD) out).length = out.length := ss_len _
      unfold lits
      by_cases h0 : out = []
      · have e1 : llate s now = (withFair s (lateF s.fair now), ss (fun t : TTicket => t.iD) out) := by
          unfold llate
          rw [← k2, h0, if_pos rfl, late_none (by rw [← k2, h0])]
        rw [e1]
        have h0' : out.length = 0 := by rw [h0]; rfl
        repeat' first
          | refine Z0 ?_
          | refine Zx ?_
          | refine Zfc cs ?_
          | (refine Ze ?_; clear hK K)
          | refine W_reg fun K hK => ?_
          | refine W_drwR rfl mixed (by decide +kernel) fun K hK => ?_
          | refine W_drw mixed (by decide +kernel) fun K hK => ?_
          | (refine Zb ?_ ?_ <;> intro hb <;> first | (simp (disch := omega) only [go_sem] at hb; done) | (simp (disch := omega) only [go_sem] at hb; try omega) | try omega)
          | (refine Zl ?_; intro bn hnil; (try simp (disch := omega) only [go_sem] at hnil); dsimp only [putT, List.set_cons_succ, List.set_cons_zero])
        apply retQ_frz
        case h => simp (disch := omega) only [go_sem]; exact rfl
        case hq => exact rfl
        case hz => simp [Fz.int_iff, Fz.bool_iff, Fz.agg_iff, Fz.str_iff, rws_fz_iff, Fz.tuple_iff, enc_fz_iff, enc_mem_iff]
        case hf =>
          refine .tupleC (.cons (.aggC ?_) (.cons (.refE trivial (lk_hit rfl) rfl (by rw [rws_length]; exact ls)) .nil))
          repeat' first
            | exact .nil
            | refine .cons ?_ ?_
            | exact .refl _
            | exact frz_lanes (by rw [lk_miss (by omega), lk_famR_miss (by omega)]; exact lk_hit rfl) (fun j hj => by rw [lk_miss (by omega)]; exact zl _ j hj) trivial (fun _ _ => trivial)
            | exact .refE trivial (by rw [lk_miss (by omega), lk_famR_miss (by omega), lk_miss (by omega)]; exact lk_hit rfl) rfl (rws_length _)
      · have h0' : out.length ≠ 0 := fun h => h0 (List.length_eq_zero_iff.1 h)
        have e1 : llate s now = (withFair s (ftrim (lateF s.fair now)), ss (fun t : TTicket => t.iD) out) := by
          unfold llate
          rw [← k2, if_neg h0]
        rw [e1]
        have hlf : okF 1000 1000 (lateF s.fair now) := ⟨by simp only [lateF, List.length_map]; exact hn, fun l hl => by
          simp only [lateF, List.mem_map] at hl
          obtain ⟨x, hx, rfl⟩ := hl
          exact ⟨(hf.2 x hx).1, Nat.le_trans (List.length_filter_le _ _) (hf.2 x hx).2⟩⟩
        have ct := ltrim_ok (lateF s.fair now) hlf
        generalize ftrim (lateF s.fair now) = F at *
        repeat' first
          | refine Z0 ?_
          | refine Zx ?_
          | (refine Ze ?_; clear hK K)
          | refine W_reg fun K hK => ?_
          | refine W_drwR rfl mixed (by decide +kernel) fun K hK => ?_
          | refine W_drw mixed (by decide +kernel) fun K hK => ?_
          | (refine Zb ?_ ?_ <;> intro hb <;> first | (simp (disch := omega) only [go_sem] at hb; done) | (simp (disch := omega) only [go_sem] at hb; try omega) | try omega)
          | (refine Zl ?_; intro bn hnil; (try simp (disch := omega) only [go_sem] at hnil); dsimp only [putT, List.set_cons_succ, List.set_cons_zero])
        apply AO_callGE (hp' := [(2012, .arr 5 (rws out)), (9, .arr 5 (rws s.running)), (2, .arr 23 [zrow]), (0, .arr 23 [stW s (.ref 15 s.fair.lanes.length 0 s.fair.lanes.length false s.fair.lanes.length) (.ref 9 s.running.length 0 s.running.length false s.running.length)])])
        case hg => exact gT
        case ho => exact rfl
        case ht => exact rfl
        case hc => exact ct
        case hh =>
          intro id ob e
          by_cases q1 : 2012 = id
          · rw [lk_hit q1] at e ⊢; exact e
          · rw [lk_miss q1] at e ⊢
            by_cases q2 : 9 = id
            · rw [lk_hit q2] at e
              rw [lk_famR_miss (by omega), lk_miss (by omega), lk_hit q2]; exact e
            · rw [lk_miss q2] at e
              by_cases q3 : 2 = id
              · rw [lk_hit q3] at e
                rw [lk_famR_miss (by omega), lk_miss (by omega), lk_miss (by omega), lk_hit q3]; exact e
              · rw [lk_miss q3] at e
                by_cases q4 : 0 = id
                · rw [lk_hit q4] at e
                  rw [lk_famR_miss (by omega), lk_miss (by omega), lk_miss (by omega), lk_miss (by omega), lk_hit q4]; exact e
                · rw [lk_miss q4] at e; cases e
        case hf =>
          refine ⟨.aggC ?_, trivial⟩
          repeat' first
            | exact .nil
            | refine .cons ?_ ?_
            | exact .refl _
            | exact frz_lanes (by rw [lk_miss (by omega), lk_famR_miss (by omega)]; exact lk_hit rfl) (fun j hj => by rw [lk_miss (by omega)]; exact zl _ j hj) rfl (fun j hj => by rw [lk_miss (by omega), lk_miss (by omega), lk_miss (by omega), lk_miss (by omega)]; rfl)
        case htm => exact pT
        case hn => exact nT
        repeat' first
          | refine Z0 ?_
          | refine Zx ?_
          | refine Zfc cs ?_
          | (refine Ze ?_; clear hK K)
          | refine W_reg fun K hK => ?_
          | refine W_drwR rfl mixed (by decide +kernel) fun K hK => ?_
          | refine W_drw mixed (by decide +kernel) fun K hK => ?_
          | (refine Zb ?_ ?_ <;> intro hb <;> first | (simp (disch := omega) only [go_sem] at hb; done) | (simp (disch := omega) only [go_sem] at hb; try omega) | try omega)
          | (refine Zl ?_; intro bn hnil; (try simp (disch := omega) only [go_sem] at hnil); dsimp only [putT, List.set_cons_succ, List.set_cons_zero])
        apply retQ_frz
        case h => simp (disch := omega) only [go_sem]; exact rfl
        case hq => exact rfl
        case hz => simp [Fz.int_iff, Fz.bool_iff, Fz.agg_iff, Fz.str_iff, rws_fz_iff, Fz.tuple_iff, enc_fz_iff, enc_mem_iff]
        case hf =>
          refine .tupleC (.cons (.aggC ?_) (.cons (.refE trivial (lk_hit rfl) rfl (by rw [rws_length]; exact ls)) .nil))
          repeat' first
            | exact .nil
            | refine .cons ?_ ?_
            | exact .refl _
            | exact .refE trivial (by rw [lk_miss (by omega)]; exact lk_hit rfl) rfl (rws_length _)

end Go.Proofs.Ytdgjelfeclgolaa
