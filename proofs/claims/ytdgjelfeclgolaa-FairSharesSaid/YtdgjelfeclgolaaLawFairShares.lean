/-
  The row of the law FairShares, out of the contract of its function.
-/
import Derived.Test.YtdgjelfeclgolaaRows
import Derived.Test.YtdgjelfeclgolaaF18
import Derived.WalkKit
import Derived.ProofKit
import Derived.OpenShut
import Derived.ShutString
import Derived.ChangeOld
import Derived.Below
import Derived.SizedLaws
import Derived.Carry
namespace Go.Proofs.Ytdgjelfeclgolaa.fairShares
open Go.ChangeShapes Go.WideShapes Go.ChangeAt Go.RowKit Go.AM
open Go.ChangeMaps (open_string shut_string)
theorem laidOut : laidOutB Try.prog = true := by kernel_rfl
set_option linter.unusedVariables false
theorem own : ownKnob Try.prog.godebug = none := by kernel_rfl
set_option maxRecDepth 100000 in
theorem lifted (os : Os) (started : os.Started) (H : Type) (enc : TypeId × Value → H) :
    ReturnsInHanded {} Try.checked os 9 .any (Rows.fairSharesSpec.pre6 enc Try.prog Try.f9 Rows.fairSharesRow.domain false) (Rows.fairSharesSpec.post enc Try.prog Try.f9 false true false false) := by
  refine returnsInHanded_of_change_sized (C := Try.checked) own started (by kernel_rfl) Try.func9
    (ChangeSpec.witness6 (enc := enc) (C := Try.checked) false ⟨#[], #[.int .i64 0, .int .i64 0, .slice none 0 0, .int .i64 0, .int .i64 0, .int .i64 0, .int .i64 0], []⟩ 8 (by kernel_rfl) (by kernel_rfl) (by kernel_rfl) (by kernel_rfl)) ?_
  intro W base args ds gs before hval0 hW hcnd hsz0 _
  have hsz : (DataW.weightsEach Try.prog (Try.f9.params.toList ++ Rows.fairSharesSpec.plain.varTypes Try.prog) (ds ++ gs)).all (· ≤ reachBytes) = true := hsz0
  have hval : ∀ (j : Nat) t v, Try.f9.params[j]? = some t → args[j]? = some v → Value.okWide Try.prog W .any base t v := hval0
  have hW' := hW
  obtain ⟨p, q, hA0, hV, rfl, hfz, hnd⟩ := hW
  have hA : DataW.TrodAll enc Try.prog W 0 (fun _ => true) true Try.f9.params.toList args.toList ds p := hA0
  rw [Try.params9] at hA hval hsz
  obtain ⟨v0, vs0, d0, ds0, p0, q0, hargs, rfl, rfl, h0, r0⟩ := trodAll_cons hA
  obtain ⟨v1, vs1, d1, ds1, p1, q1, rfl, rfl, rfl, h1, r1⟩ := trodAll_cons r0
  obtain ⟨v2, vs2, d2, ds2, p2, q2, rfl, rfl, rfl, h2, r2⟩ := trodAll_cons r1
  obtain ⟨v3, vs3, d3, ds3, p3, q3, rfl, rfl, rfl, h3, r3⟩ := trodAll_cons r2
  obtain ⟨v4, vs4, d4, ds4, p4, q4, rfl, rfl, rfl, h4, r4⟩ := trodAll_cons r3
  obtain ⟨v5, vs5, d5, ds5, p5, q5, rfl, rfl, rfl, h5, r5⟩ := trodAll_cons r4
  obtain ⟨v6, vs6, d6, ds6, p6, q6, rfl, rfl, rfl, h6, r6⟩ := trodAll_cons r5
  obtain ⟨rfl, rfl, rfl⟩ := trodAll_nil r6
  obtain rfl : args = #[v0, v1, v2, v3, v4, v5, v6] := by cases args; simp_all
  obtain ⟨rfl, rfl⟩ := trodVars_none hV
  obtain ⟨a0, rfl, rfl, rfl, x0⟩ := open_int Try.underlying3 (hval 0 3 v0 rfl rfl) h0
  have w0 := wf_i64 x0
  obtain ⟨a1, rfl, rfl, rfl, x1⟩ := open_int Try.underlying3 (hval 1 3 v1 rfl rfl) h1
  have w1 := wf_i64 x1
  have k2 := h2
  have lt2 : ∀ x ∈ p2, x.block < W.heap.size := by obtain ⟨m, hm⟩ := k2; exact DataW.trod_lt m _ _ _ hm
  obtain ⟨sa2, len2, cap2, rfl⟩ := okWide_slice Try.underlying49 (hval 2 49 v2 rfl rfl)
  obtain ⟨ys2, e2, l2, hy2, n2, wf2⟩ := arg_slice_rd laidOut (t := 49) (of_decide_eq_true (by kernel_rfl)) (rd_slice (α := TTurn) Try.underlying49 (by kernel_rfl) rd_TTurn) h2
  injection hy2 with hy2
  subst hy2
  obtain ⟨a3, rfl, rfl, rfl, x3⟩ := open_int Try.underlying3 (hval 3 3 v3 rfl rfl) h3
  have w3 := wf_i64 x3
  obtain ⟨a4, rfl, rfl, rfl, x4⟩ := open_int Try.underlying3 (hval 4 3 v4 rfl rfl) h4
  have w4 := wf_i64 x4
  obtain ⟨a5, rfl, rfl, rfl, x5⟩ := open_int Try.underlying3 (hval 5 3 v5 rfl rfl) h5
  have w5 := wf_i64 x5
  obtain ⟨a6, rfl, rfl, rfl, x6⟩ := open_int Try.underlying3 (hval 6 3 v6 rfl rfl) h6
  have w6 := wf_i64 x6
  clear hA0 hval0 hsz0 hsz
  refine (law_calls (fairShares_ok a0 a1 l2 a3 a4 a5 a6 n2) rfl (rel_cons (.int _ _) (rel_cons (.int _ _) (rel_cons e2 (rel_cons (.int _ _) (rel_cons (.int _ _) (rel_cons (.int _ _) (rel_cons (.int _ _) rel_nil)))))))).mono fun e W' ⟨he, bel⟩ => ?_
  subst he
  exact ⟨_, rfl, _, _, _, [], _, [], hW', trodAll_mk1 (shut_bool Try.underlying4 _), (trodAll_cons_mk (shut_int Try.underlying3 x0) (trodAll_cons_mk (shut_int Try.underlying3 x1) (trodAll_cons_mk (Below.trod laidOut (by kernel_rfl) (of_decide_eq_true (by kernel_rfl)) k2 bel lt2) (trodAll_cons_mk (shut_int Try.underlying3 x3) (trodAll_cons_mk (shut_int Try.underlying3 x4) (trodAll_cons_mk (shut_int Try.underlying3 x5) (trodAll_cons_mk (shut_int Try.underlying3 x6) trodAll_mk0))))))), rfl, bel.frame _, fun h => by cases h⟩
theorem over : Rows.fairSharesRow.holds Try.pinned (OpenSpec.ofChange Rows.fairSharesSpec) :=
  OpenClaim.holds_of_wide 9 Try.f9 rfl rfl rfl rfl rfl rfl rfl ⟨rfl, rfl, rfl, rfl, rfl⟩ rfl rfl rfl rfl rfl (by kernel_rfl) Try.func9 (by kernel_rfl)
    (of_decide_eq_true (by kernel_rfl)) (by unfold Func.isWrapper; first | (rw [if_pos (by decide +kernel)]; kernel_rfl) | (rw [if_neg (by decide +kernel)]; exact ⟨rfl, rfl⟩))
    (fun os started H enc _ => lifted os started H enc)
theorem proved : Rows.FairSharesSaid := over
end Go.Proofs.Ytdgjelfeclgolaa.fairShares
namespace Go.Proofs.Ytdgjelfeclgolaa
/-- The row, under a short name, for the claim. -/
theorem fairShares_holds : Rows.FairSharesSaid := fairShares.proved
end Go.Proofs.Ytdgjelfeclgolaa

