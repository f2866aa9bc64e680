/-
  The row of the law LaneAll, out of the contract of its function.
-/
import Derived.Test.YtdgjelfeclgolaaRows
import Derived.Test.YtdgjelfeclgolaaF6
import Derived.WalkKit
import Derived.ProofKit
import Derived.OpenShut
import Derived.ShutString
import Derived.ChangeOld
import Derived.Below
import Derived.SizedLaws
import Derived.Carry
namespace Go.Proofs.Ytdgjelfeclgolaa.laneAll
open Go.ChangeShapes Go.WideShapes Go.ChangeAt Go.RowKit Go.AM
open Go.ChangeMaps (open_string shut_string)
theorem laidOut : laidOutB Try.prog = true := by kernel_rfl
set_option linter.unusedVariables false
theorem own : ownKnob Try.prog.godebug = none := by kernel_rfl
set_option maxRecDepth 100000 in
theorem lifted (os : Os) (started : os.Started) (H : Type) (enc : TypeId × Value → H) :
    ReturnsInHanded {} Try.checked os 6 .any (Rows.laneAllSpec.pre6 enc Try.prog Try.f6 Rows.laneAllRow.domain false) (Rows.laneAllSpec.post enc Try.prog Try.f6 false true false false) := by
  refine returnsInHanded_of_change_sized (C := Try.checked) own started (by kernel_rfl) Try.func6
    (ChangeSpec.witness6 (enc := enc) (C := Try.checked) false ⟨#[], #[.agg #[.int .u64 0, .slice none 0 0], .int .u64 0, .agg #[.int .i64 0, .int .i64 0, .int .i64 0, .int .i64 0, .int .i64 0], .int .i64 0, .int .i64 0], []⟩ 8 (by kernel_rfl) (by kernel_rfl) (by kernel_rfl) (by kernel_rfl)) ?_
  intro W base args ds gs before hval0 hW hcnd hsz0 _
  have hsz : (DataW.weightsEach Try.prog (Try.f6.params.toList ++ Rows.laneAllSpec.plain.varTypes Try.prog) (ds ++ gs)).all (· ≤ reachBytes) = true := hsz0
  have hval : ∀ (j : Nat) t v, Try.f6.params[j]? = some t → args[j]? = some v → Value.okWide Try.prog W .any base t v := hval0
  have hW' := hW
  obtain ⟨p, q, hA0, hV, rfl, hfz, hnd⟩ := hW
  have hA : DataW.TrodAll enc Try.prog W 0 (fun _ => true) true Try.f6.params.toList args.toList ds p := hA0
  rw [Try.params6] at hA hval hsz
  obtain ⟨v0, vs0, d0, ds0, p0, q0, hargs, rfl, rfl, h0, r0⟩ := trodAll_cons hA
  obtain ⟨v1, vs1, d1, ds1, p1, q1, rfl, rfl, rfl, h1, r1⟩ := trodAll_cons r0
  obtain ⟨v2, vs2, d2, ds2, p2, q2, rfl, rfl, rfl, h2, r2⟩ := trodAll_cons r1
  obtain ⟨v3, vs3, d3, ds3, p3, q3, rfl, rfl, rfl, h3, r3⟩ := trodAll_cons r2
  obtain ⟨v4, vs4, d4, ds4, p4, q4, rfl, rfl, rfl, h4, r4⟩ := trodAll_cons r3
  obtain ⟨rfl, rfl, rfl⟩ := trodAll_nil r4
  obtain rfl : args = #[v0, v1, v2, v3, v4] := by cases args; simp_all
  obtain ⟨rfl, rfl⟩ := trodVars_none hV
  have k0 := h0
  have lt0 : ∀ x ∈ p0, x.block < W.heap.size := by obtain ⟨m, hm⟩ := k0; exact DataW.trod_lt m _ _ _ hm
  have hv0 := (hval 0 26 v0 rfl rfl)
  simp only [Value.okWide, Try.underlying26] at hv0
  obtain ⟨cs0, rfl, _⟩ := hv0
  obtain ⟨ys0, e0, x0, rfl, wf0⟩ := arg_agg_rd laidOut (t := 26) (of_decide_eq_true (by kernel_rfl)) rd_TLane h0
  obtain ⟨a1, rfl, rfl, rfl, x1⟩ := open_int Try.underlying22 (hval 1 22 v1 rfl rfl) h1
  have w1 := wf_u64 x1
  have k2 := h2
  have lt2 : ∀ x ∈ p2, x.block < W.heap.size := by obtain ⟨m, hm⟩ := k2; exact DataW.trod_lt m _ _ _ hm
  have hv2 := (hval 2 29 v2 rfl rfl)
  simp only [Value.okWide, Try.underlying29] at hv2
  obtain ⟨cs2, rfl, _⟩ := hv2
  obtain ⟨ys2, e2, x2, rfl, wf2⟩ := arg_agg_rd laidOut (t := 29) (of_decide_eq_true (by kernel_rfl)) rd_TTicket h2
  obtain ⟨a3, rfl, rfl, rfl, x3⟩ := open_int Try.underlying3 (hval 3 3 v3 rfl rfl) h3
  have w3 := wf_i64 x3
  obtain ⟨a4, rfl, rfl, rfl, x4⟩ := open_int Try.underlying3 (hval 4 3 v4 rfl rfl) h4
  have w4 := wf_i64 x4
  clear hA0 hval0 hsz0 hsz
  refine (law_calls (all_ok x0 a1 x2 a3 a4 wf0.1.1 w1.1) rfl (rel_cons e0 (rel_cons (.int _ _) (rel_cons e2 (rel_cons (.int _ _) (rel_cons (.int _ _) rel_nil)))))).mono fun e W' ⟨he, bel⟩ => ?_
  subst he
  exact ⟨_, rfl, _, _, _, [], _, [], hW', trodAll_mk1 (shut_bool Try.underlying4 _), (trodAll_cons_mk (Below.trod laidOut (by kernel_rfl) (of_decide_eq_true (by kernel_rfl)) k0 bel lt0) (trodAll_cons_mk (shut_int Try.underlying22 x1) (trodAll_cons_mk (Below.trod laidOut (by kernel_rfl) (of_decide_eq_true (by kernel_rfl)) k2 bel lt2) (trodAll_cons_mk (shut_int Try.underlying3 x3) (trodAll_cons_mk (shut_int Try.underlying3 x4) trodAll_mk0))))), rfl, bel.frame _, fun h => by cases h⟩
theorem over : Rows.laneAllRow.holds Try.pinned (OpenSpec.ofChange Rows.laneAllSpec) :=
  OpenClaim.holds_of_wide 6 Try.f6 rfl rfl rfl rfl rfl rfl rfl ⟨rfl, rfl, rfl, rfl, rfl⟩ rfl rfl rfl rfl rfl (by kernel_rfl) Try.func6 (by kernel_rfl)
    (of_decide_eq_true (by kernel_rfl)) (by unfold Func.isWrapper; first | (rw [if_pos (by decide +kernel)]; kernel_rfl) | (rw [if_neg (by decide +kernel)]; exact ⟨rfl, rfl⟩))
    (fun os started H enc _ => lifted os started H enc)
theorem proved : Rows.LaneAllSaid := over
end Go.Proofs.Ytdgjelfeclgolaa.laneAll
namespace Go.Proofs.Ytdgjelfeclgolaa
/-- The row, under a short name, for the claim. -/
theorem laneAll_holds : Rows.LaneAllSaid := laneAll.proved
end Go.Proofs.Ytdgjelfeclgolaa

