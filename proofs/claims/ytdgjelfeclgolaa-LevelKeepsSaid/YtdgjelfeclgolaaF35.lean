/-
  A level: Late; walked.
-/
import Derived.Test.YtdgjelfeclgolaaF34
namespace Go.Proofs.Ytdgjelfeclgolaa
open Go Go.AM
set_option maxHeartbeats 8000000
set_option maxRecDepth 8000
set_option linter.unusedSimpArgs false
set_option linter.unusedVariables false

theorem lcopied_N (s : TState) (hf : okF 1000 1000 s.fair) (hr : s.running.length ≤ 2000000) : NCall Try.prog 106 [.agg (Enc.enc s)] (.agg (stW s (.ref 10 s.fair.lanes.length 0 s.fair.lanes.length false s.fair.lanes.length) (.ref 4 s.running.length 0 s.running.length false s.running.length)))
    (famR 5 (fw s.fair.lanes) 100 s.fair.lanes.length ++ [(10, .arr 2 (rowsI (refL 100) s.fair.lanes)), (4, .arr 5 (rws s.running))]) 2000 := by
  have hn := hf.1
  refine ⟨lcopiedF_ok s hf hr, ?_, fun e he => ?_, fun e he => ?_, .agg _ fun y hy => ?_, fun x hx => ?_⟩
  · rw [List.map_append, List.nodup_append]
    refine ⟨famR_nodup, by simp, fun a ha b hb => ?_⟩
    rw [famR_keys] at ha
    simp only [List.map_cons, List.map_nil, List.mem_cons, List.not_mem_nil, or_false] at hb
    omega
  · simp only [List.mem_append, famR_mem, List.mem_cons, List.not_mem_nil, or_false] at he
    rcases he with ⟨i, h1, rfl⟩ | rfl | rfl <;> simp only [] <;> omega
  · simp only [List.mem_append, famR_mem, List.mem_cons, List.not_mem_nil, or_false] at he
    rcases he with ⟨i, h1, rfl⟩ | rfl | rfl
    · simp [lfO_rws]
    · intro r hr y hy
      obtain ⟨j, l, hl, rfl⟩ := rowsI_mem hr
      have := (List.getElem?_eq_some_iff.1 hl).1
      simp only [refL, List.mem_cons, List.not_mem_nil, or_false] at hy
      rcases hy with rfl | rfl
      · exact .fz _ (.int _ _)
      · refine .ref _ _ _ _ _ _ ?_
        simp only [List.map_append, List.mem_append, famR_keys]
        omega
    · simp [lfO_rws]
  · simp only [stW, List.mem_cons, List.not_mem_nil, or_false] at hy
    rcases hy with rfl | rfl | rfl | rfl | rfl | rfl | rfl | rfl | rfl | rfl | rfl | rfl | rfl | rfl | rfl | rfl | rfl | rfl | rfl | rfl | rfl | rfl | rfl
    · exact .fz _ (.str _)
    all_goals first | exact .fz _ (.int _ _) | exact .fz _ (.bool _) | exact .ref _ _ _ _ _ _ (by simp)
  · simp only [List.mem_cons, List.not_mem_nil, or_false] at hx
    subst hx
    exact .agg _ fun y hy => Enc.fz s y hy

theorem renN (s : TState) (c : Nat) (hp : Heap) : renH (fun i => c + i) (famR 5 (fw s.fair.lanes) 100 s.fair.lanes.length ++ [(10, .arr 2 (rowsI (refL 100) s.fair.lanes)), (4, .arr 5 (rws s.running))]) ++ hp =
    famR 5 (fw s.fair.lanes) (c + 100) s.fair.lanes.length ++ ((c + 10, .arr 2 (rowsI (refL (c + 100)) s.fair.lanes)) :: (c + 4, .arr 5 (rws s.running)) :: hp) := by
  rw [renH_append, renH_famR (B' := c + 100) fun i hi => by omega]
  have e : (rowsI (refL 100) s.fair.lanes).map (fun r => r.map (ren0 fun i => c + i)) = rowsI (refL (c + 100)) s.fair.lanes := by
    unfold rowsI
    apply List.ext_getElem?
    intro i
    rw [List.getElem?_map, List.getElem?_mapIdx, List.getElem?_mapIdx]
    cases s.fair.lanes[i]? with
    | none => rfl
    | some l => simp only [Option.map_some, refL, List.map_cons, List.map_nil, ren0, Nat.add_assoc]
  simp only [renH, renO, ren_rws, e, List.append_assoc, List.cons_append, List.nil_append]

/-- A lane whose list has been gone through. -/
def refK (now : Int) (B j : Nat) (l : TLane) : List AVal := [.int .u64 l.start, .ref (B + j) l.wait.length 0 (stay now l.wait).length false l.wait.length]

theorem frz_lanes {h : Heap} {S : Nat → Prop} {L : List TLane} {now : Int} {B id : Nat} {ex : Bool} {c : Nat} (h1 : lk h id = some (.arr 2 (rowsI (refK now B) L))) (h2 : ∀ i, i < L.length → lk h (B + i) = some (.arr 5 (rws (dele now (fw L i))))) (s1 : S id) (s2 : ∀ i, i < L.length → S (B + i)) :
    Frz h S (.ref id L.length 0 L.length ex c) (.sl (rws (L.map (keepL now))) none) := by
  refine .ref id L.length 0 L.length ex c 2 (rowsI (refK now B) L) _ none s1 h1 (rowsI_len _ _) (by rw [rws_length, List.length_map]) (.inl rfl) (fun i r r' hr hr' => ?_) (fun i r r' j x x' hr hr' hx hx' => ?_)
  · rw [Nat.zero_add] at hr
    have hi : i < L.length := by have := (List.getElem?_eq_some_iff.1 hr).1; rwa [rowsI_len] at this
    obtain ⟨l, hl⟩ := some_of_lt hi
    rw [rowsI_get hl] at hr
    injection hr with hr
    have e : (L.map (keepL now))[i]? = some (keepL now l) := by rw [List.getElem?_map, hl]; rfl
    rw [rws_get e] at hr'
    injection hr' with hr'
    rw [← hr, ← hr']; rfl
  · rw [Nat.zero_add] at hr
    have hi : i < L.length := by have := (List.getElem?_eq_some_iff.1 hr).1; rwa [rowsI_len] at this
    obtain ⟨l, hl⟩ := some_of_lt hi
    rw [rowsI_get hl] at hr
    injection hr with hr
    have e : (L.map (keepL now))[i]? = some (keepL now l) := by rw [List.getElem?_map, hl]; rfl
    rw [rws_get e] at hr'
    injection hr' with hr'
    subst hr hr'
    have hw := h2 i hi
    rw [fw_of hl] at hw
    rcases j with _ | _ | j
    · simp only [refK, List.getElem?_cons_zero, Option.some.injEq] at hx
      simp only [enc_TLane, keepL, List.getElem?_cons_zero, Option.some.injEq] at hx'
      rw [← hx, ← hx']; exact .refl _
    · simp only [refK, Nat.zero_add, List.getElem?_cons_succ, List.getElem?_cons_zero, Option.some.injEq] at hx
      simp only [enc_TLane, keepL, Nat.zero_add, List.getElem?_cons_succ, List.getElem?_cons_zero, Option.some.injEq] at hx'
      rw [← hx, ← hx']
      refine .ref _ _ 0 _ _ _ 5 (rws (dele now l.wait)) _ none (s2 i hi) hw (by rw [rws_length, dele_len]) (by rw [rws_length]; rfl) (.inl rfl) (fun p r r' hr hr' => ?_) (fun p r r' q y y' hr hr' hy hy' => ?_)
      · rw [Nat.zero_add] at hr
        have hp : p < (stay now l.wait).length := by have := (List.getElem?_eq_some_iff.1 hr').1; rw [rws_length] at this; exact this
        obtain ⟨t, ht⟩ := some_of_lt hp
        have e1 : (dele now l.wait)[p]? = some t := by unfold dele; rw [List.getElem?_append_left hp]; exact ht
        rw [rws_get e1] at hr
        rw [show (l.wait.filter fun t => !decide (t.until_ ≤ now)) = stay now l.wait from rfl, rws_get ht] at hr'
        injection hr with hr
        injection hr' with hr'
        rw [← hr, ← hr']
      · rw [Nat.zero_add] at hr
        have hp : p < (stay now l.wait).length := by have := (List.getElem?_eq_some_iff.1 hr').1; rw [rws_length] at this; exact this
        obtain ⟨t, ht⟩ := some_of_lt hp
        have e1 : (dele now l.wait)[p]? = some t := by unfold dele; rw [List.getElem?_append_left hp]; exact ht
        rw [rws_get e1] at hr
        rw [show (l.wait.filter fun t => !decide (t.until_ ≤ now)) = stay now l.wait from rfl, rws_get ht] at hr'
        injection hr with hr
        injection hr' with hr'
        subst hr hr'
        rw [hy] at hy'
        injection hy' with hy'
        rw [hy']; exact .refl _
    · simp only [refK, List.getElem?_cons_succ] at hx
      cases hx

theorem ltrim_ok (f : TFair) (hf : okF 1000 1000 f) : PCall Try.prog 112 [.agg (Enc.enc f)] (· = .agg (Enc.enc (ftrim f))) := by
  have hn := hf.1
  refine PCall_intro (c := Try.f112.body.getD .skip) Try.func112 rfl (by decide +kernel) Zf (W_start ?_)
  simp only [Try.f112, go_sem]
  repeat' first
    | refine Z0 ?_
    | refine Zx ?_
    | (refine Ze ?_; clear hK K)
    | refine W_reg fun K hK => ?_
    | refine W_drwR rfl mixed (by decide +kernel) fun K hK => ?_
    | refine W_drw mixed (by decide +kernel) fun K hK => ?_
    | (refine Zb ?_ ?_ <;> intro hb <;> first | (simp (disch := omega) only [go_sem] at hb; done) | (simp (disch := omega) only [go_sem] at hb; try omega) | try omega)
    | (refine Zl ?_; intro bn hnil; (try simp (disch := omega) only [go_sem] at hnil); dsimp only [putT, List.set_cons_succ, List.set_cons_zero])
  refine W_foldK (fun (n : Nat) => [none, none, none, some (.int .i64 n), none, none, none, some .junk, some .junk, some .junk, some .junk, some .junk, some .junk, some .junk, some .junk, some .junk, some .junk, some .junk, some .junk, some .junk, some .junk, some .junk, some .junk, some .junk, some .junk]) (fun n => n ≤ f.lanes.length ∧ trimN f.open_ f.lanes f.lanes.length = trimN f.open_ f.lanes n) (fun n => n) f.lanes.length ⟨by omega, rfl⟩ (by exact weak_mk wkD wkH wkN wkM (by omega)) ?_
  rintro n ⟨h1, h2⟩
  simp only [msk_none, msk_some, msk_nil]
  rcases n with _ | n
  · have e1 : ftrim f = ⟨f.r, f.guess, f.length, f.open_, []⟩ := by rw [ftrim, h2, trimN, List.take_zero]
    rw [e1]
    repeat' first
      | refine Z0 ?_
      | refine Zx ?_
      | (refine Ze ?_; clear hK K)
      | refine W_reg fun K hK => ?_
      | refine W_drwR rfl mixed (by decide +kernel) fun K hK => ?_
      | refine W_drw mixed (by decide +kernel) fun K hK => ?_
      | (refine Zb ?_ ?_ <;> intro hb <;> first | (simp (disch := omega) only [go_sem] at hb; done) | (simp (disch := omega) only [go_sem] at hb; try omega) | try omega)
      | (refine Zl ?_; intro bn hnil; (try simp (disch := omega) only [go_sem] at hnil); dsimp only [putT, List.set_cons_succ, List.set_cons_zero])
    exact Zr
  · obtain ⟨x, hx⟩ := some_of_lt (l := f.lanes) (i := n) (by omega)
    rw [trimN, getD_of hx] at h2
    have t1 : (((n + 1 : Nat) : Int) - 1).toNat = n := by omega
    by_cases hc : max f.open_ 0 < (n : Int) + 1 ∧ x.wait.length = 0
    · rw [if_pos hc] at h2
      obtain ⟨h3, h4⟩ := hc
      have zz1 := rws_get hx
      have zz2 := t1
      repeat' first
        | refine Z2 ?_
        | refine Zx ?_
        | (refine Ze ?_; clear hK K)
        | refine W_reg fun K hK => ?_
        | refine W_drwR rfl mixed (by decide +kernel) fun K hK => ?_
        | refine W_drw mixed (by decide +kernel) fun K hK => ?_
        | (refine Zb ?_ ?_ <;> intro hb <;> first | (simp (disch := omega) only [go_sem, zz1, zz2] at hb; done) | (simp (disch := omega) only [go_sem, zz1, zz2] at hb; try omega) | try omega)
        | (refine Zl ?_; intro bn hnil; (try simp (disch := omega) only [go_sem, zz1, zz2] at hnil); dsimp only [putT, List.set_cons_succ, List.set_cons_zero])
      exact L_next ⟨n, by omega, ⟨by omega, h2⟩, (by simp only [show ((n + 1 : Nat) : Int) - 1 = n by omega]; exact (by exact weak_mk wkD wkH wkN wkM (by omega)))⟩
    · rw [if_neg hc] at h2
      have e1 : ftrim f = ⟨f.r, f.guess, f.length, f.open_, f.lanes.take (n + 1)⟩ := by rw [ftrim, h2]
      have e2 : List.take (n + 1) (rws f.lanes) = rws (f.lanes.take (n + 1)) := rws_take _ _
      rw [e1]
      have zz1 := rws_get hx
      have zz2 := t1
      have zz3 := e2
      repeat' first
        | refine Z3 ?_
        | refine Zx ?_
        | (refine Ze ?_; clear hK K)
        | refine W_reg fun K hK => ?_
        | refine W_drwR rfl mixed (by decide +kernel) fun K hK => ?_
        | refine W_drw mixed (by decide +kernel) fun K hK => ?_
        | (refine Zb ?_ ?_ <;> intro hb <;> first | (simp (disch := omega) only [go_sem, zz1, zz2, zz3] at hb; done) | (simp (disch := omega) only [go_sem, zz1, zz2, zz3] at hb; try omega) | try omega)
        | (refine Zl ?_; intro bn hnil; (try simp (disch := omega) only [go_sem, zz1, zz2, zz3] at hnil); dsimp only [putT, List.set_cons_succ, List.set_cons_zero])
      all_goals exact Zr

end Go.Proofs.Ytdgjelfeclgolaa
