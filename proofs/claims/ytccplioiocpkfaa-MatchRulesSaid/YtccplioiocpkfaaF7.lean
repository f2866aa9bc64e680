/-
  What a law's configuration is.
-/
import Derived.Test.YtccplioiocpkfaaF6
namespace Go.Proofs.Ytccplioiocpkfaa
open Go Go.AM
set_option maxHeartbeats 4000000
set_option linter.unusedSimpArgs false
set_option linter.unusedVariables false

def cfgOf (s : TSchema) : TConfig := ⟨0, 0, 0, 0, [], [s]⟩
def emp : ByteArray := ⟨#[]⟩
def sOf (r : TRule) : TSchema := ⟨emp, emp, 0, 0, [r]⟩

theorem cfgOf_wf {s : TSchema} (h : s.wf) : (cfgOf s).wf := by
  refine ⟨by simp [cfgOf], by simp [cfgOf], by simp [cfgOf], by simp [cfgOf], by simp [cfgOf, maxLen], by simp [cfgOf, maxLen], fun a ha => ?_⟩
  simp [cfgOf] at ha
  exact ha ▸ h

theorem sOf_wf {r : TRule} (h : r.wf) : (sOf r).wf := by
  refine ⟨Nat.zero_le _, Nat.zero_le _, by simp [sOf], by simp [sOf], by simp [sOf, maxLen], fun a ha => ?_⟩
  simp [sOf] at ha
  exact ha ▸ h

theorem small_rules {s : TSchema} (h : smallC (cfgOf s) = true) : s.rules.length ≤ 40 ∧ ∀ r, r ∈ s.rules → r.users.length ≤ 40 ∧ r.groups.length ≤ 40 ∧ r.verbs.length ≤ 40 ∧ r.resources.length ≤ 40 ∧ r.spaces.length ≤ 40 := by
  simp only [smallC, Bool.and_eq_true, cfgOf, List.all_cons, List.all_nil, okS, decide_eq_true_eq, Bool.and_true] at h
  refine ⟨h.1.2.1.1.1, fun r hr => ?_⟩
  have h2 := List.all_eq_true.1 h.1.2.2 r hr
  simp only [okR, lists, okL, List.all_cons, List.all_nil, Bool.and_eq_true, decide_eq_true_eq, Bool.and_true] at h2
  exact ⟨h2.1.1, h2.2.1.1, h2.2.2.1.1, h2.2.2.2.1.1, h2.2.2.2.2.1⟩


end Go.Proofs.Ytccplioiocpkfaa
