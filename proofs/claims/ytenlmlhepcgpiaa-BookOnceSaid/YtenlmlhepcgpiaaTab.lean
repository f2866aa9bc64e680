/-
  What the types of this seat's program are, as AM's table has them; the structs as Lean structures. Written by gentab2.py; the kernel checks each row.
-/
import Derived.Test.YtenlmlhepcgpiaaProg
import Derived.Test.YtenlmlhepcgpiaaAM44
import Derived.KernelRfl
namespace Go.Proofs.Ytenlmlhepcgpiaa
open Go Go.AM
set_option linter.unusedVariables false
set_option linter.unusedSimpArgs false
theorem ty2 : tab Try.prog 2 = some ⟨.int .i64, 1, 8, .int .i64 0⟩ := by kernel_rfl
theorem ty3 : tab Try.prog 3 = some ⟨.int .i64, 1, 8, .int .i64 0⟩ := by kernel_rfl
theorem ty4 : tab Try.prog 4 = some ⟨.bool, 1, 1, .bool false⟩ := by kernel_rfl
theorem ty5 : tab Try.prog 5 = some ⟨.int .u8, 1, 1, .int .u8 0⟩ := by kernel_rfl
theorem ty6 : tab Try.prog 6 = some ⟨.int .u8, 1, 1, .int .u8 0⟩ := by kernel_rfl
theorem ty9 : tab Try.prog 9 = some ⟨.str, 1, 16, .str ⟨#[]⟩⟩ := by kernel_rfl
theorem ty10 : tab Try.prog 10 = some ⟨.str, 1, 16, .str ⟨#[]⟩⟩ := by kernel_rfl
theorem ty11 : tab Try.prog 11 = some ⟨.str, 1, 16, .str ⟨#[]⟩⟩ := by kernel_rfl
theorem ty12 : tab Try.prog 12 = some ⟨.int .u64, 1, 8, .int .u64 0⟩ := by kernel_rfl
theorem ty23 : tab Try.prog 23 = some ⟨.slice 28, 1, 24, .sl [] (some 0)⟩ := by kernel_rfl
theorem ty24 : tab Try.prog 24 = some ⟨.int .i64, 1, 8, .int .i64 0⟩ := by kernel_rfl
theorem ty27 : tab Try.prog 27 = some ⟨.struct [⟨0, 1, false, 3, false⟩, ⟨1, 1, false, 3, false⟩, ⟨2, 1, false, 9, false⟩], 3, 32, .agg [.int .i64 0, .int .i64 0, .str ⟨#[]⟩]⟩ := by kernel_rfl
theorem eg27 : Try.prog.eqGuardType Try.prog.depth 27 = false := by kernel_rfl
theorem si27 : Try.prog.stoodInHeld 27 = false := by kernel_rfl
theorem ty28 : tab Try.prog 28 = some ⟨.struct [⟨0, 1, false, 3, false⟩, ⟨1, 1, false, 3, false⟩, ⟨2, 1, false, 9, false⟩], 3, 32, .agg [.int .i64 0, .int .i64 0, .str ⟨#[]⟩]⟩ := by kernel_rfl
theorem eg28 : Try.prog.eqGuardType Try.prog.depth 28 = false := by kernel_rfl
theorem si28 : Try.prog.stoodInHeld 28 = false := by kernel_rfl
theorem ty41 : tab Try.prog 41 = some ⟨.slice 43, 1, 24, .sl [] (some 0)⟩ := by kernel_rfl
theorem ty42 : tab Try.prog 42 = some ⟨.struct [⟨0, 1, false, 4, false⟩, ⟨1, 1, false, 3, false⟩, ⟨2, 1, false, 3, false⟩], 3, 24, .agg [.bool false, .int .i64 0, .int .i64 0]⟩ := by kernel_rfl
theorem eg42 : Try.prog.eqGuardType Try.prog.depth 42 = false := by kernel_rfl
theorem si42 : Try.prog.stoodInHeld 42 = false := by kernel_rfl
theorem ty43 : tab Try.prog 43 = some ⟨.struct [⟨0, 1, false, 4, false⟩, ⟨1, 1, false, 3, false⟩, ⟨2, 1, false, 3, false⟩], 3, 24, .agg [.bool false, .int .i64 0, .int .i64 0]⟩ := by kernel_rfl
theorem eg43 : Try.prog.eqGuardType Try.prog.depth 43 = false := by kernel_rfl
theorem si43 : Try.prog.stoodInHeld 43 = false := by kernel_rfl
theorem ty47 : tab Try.prog 47 = some ⟨.array 4 3, 4, 32, .agg [.int .i64 0, .int .i64 0, .int .i64 0, .int .i64 0]⟩ := by kernel_rfl
theorem eg47 : Try.prog.eqGuardType Try.prog.depth 47 = false := by kernel_rfl
theorem ty58 : tab Try.prog 58 = some ⟨.int .u8, 1, 1, .int .u8 0⟩ := by kernel_rfl
theorem ty59 : tab Try.prog 59 = some ⟨.int .u8, 1, 1, .int .u8 0⟩ := by kernel_rfl
theorem mixed : Try.prog.follows .mixedOrders = true := by kernel_rfl
structure TEntry where
  iD : Int
  phase : Int
  level : ByteArray
  deriving DecidableEq
instance : Enc TEntry := ⟨fun x => [.int .i64 x.iD, .int .i64 x.phase, .str x.level], 3, fun _ => rfl, fun x y h => by
  simp only [List.mem_cons, List.not_mem_nil, or_false] at h
  rcases h with rfl | rfl | rfl
  · exact .int _ _
  · exact .int _ _
  · exact .str _⟩
theorem enc_TEntry (x : TEntry) : Enc.enc x = [.int .i64 x.iD, .int .i64 x.phase, .str x.level] := rfl
theorem size_TEntry : Enc.size TEntry = 3 := rfl
def TEntry.wf (x : TEntry) : Prop := (-9223372036854775808 ≤ x.iD ∧ x.iD ≤ 9223372036854775807) ∧ (-9223372036854775808 ≤ x.phase ∧ x.phase ≤ 9223372036854775807) ∧ x.level.size ≤ maxLen
theorem rd_TEntry : RdC Try.prog 28 (fun ys => ∃ x : TEntry, ys = Enc.enc x ∧ x.wf) := by
  refine RdC.mono (rd_struct Try.underlying28 (show RdS Try.prog [3, 3, 9] _ from (rd_cons (rd_i64 Try.underlying3) (rd_cons (rd_i64 Try.underlying3) (rd_cons (rd_str Try.underlying9) rd_nil))))) ?_
  rintro ys ⟨_, _, rfl, ⟨x0, rfl, h0⟩, ⟨_, _, rfl, ⟨x1, rfl, h1⟩, ⟨_, _, rfl, ⟨x2, rfl, h2⟩, rfl⟩⟩⟩
  exact ⟨⟨x0, x1, x2⟩, rfl, h0, h1, h2⟩
structure TOp where
  begin : Bool
  iD : Int
  phase : Int
  deriving DecidableEq
instance : Enc TOp := ⟨fun x => [.bool x.begin, .int .i64 x.iD, .int .i64 x.phase], 3, fun _ => rfl, fun x y h => by
  simp only [List.mem_cons, List.not_mem_nil, or_false] at h
  rcases h with rfl | rfl | rfl
  · exact .bool _
  · exact .int _ _
  · exact .int _ _⟩
theorem enc_TOp (x : TOp) : Enc.enc x = [.bool x.begin, .int .i64 x.iD, .int .i64 x.phase] := rfl
theorem size_TOp : Enc.size TOp = 3 := rfl
def TOp.wf (x : TOp) : Prop := True ∧ (-9223372036854775808 ≤ x.iD ∧ x.iD ≤ 9223372036854775807) ∧ (-9223372036854775808 ≤ x.phase ∧ x.phase ≤ 9223372036854775807)
theorem rd_TOp : RdC Try.prog 43 (fun ys => ∃ x : TOp, ys = Enc.enc x ∧ x.wf) := by
  refine RdC.mono (rd_struct Try.underlying43 (show RdS Try.prog [4, 3, 3] _ from (rd_cons (rd_boolT Try.underlying4) (rd_cons (rd_i64 Try.underlying3) (rd_cons (rd_i64 Try.underlying3) rd_nil))))) ?_
  rintro ys ⟨_, _, rfl, ⟨x0, rfl, h0⟩, ⟨_, _, rfl, ⟨x1, rfl, h1⟩, ⟨_, _, rfl, ⟨x2, rfl, h2⟩, rfl⟩⟩⟩
  exact ⟨⟨x0, x1, x2⟩, rfl, h0, h1, h2⟩
theorem aeq27_TEntry (x y : TEntry) : aequal Try.prog 27 (.agg [.int .i64 x.iD, .int .i64 x.phase, .str x.level]) (.agg [.int .i64 y.iD, .int .i64 y.phase, .str y.level]) = some (decide (x = y)) := by
  rw [aequal_struct ty27 eg27 si27 fun d => (aeqs_int ty3 rfl rfl (aeqs_int ty3 rfl rfl (aeqs_str ty9 rfl rfl aeqs_nil)))]
  congr 1
  cases x
  cases y
  simp only [TEntry.mk.injEq, Bool.decide_and, Bool.and_true]
theorem aeq28_TEntry (x y : TEntry) : aequal Try.prog 28 (.agg [.int .i64 x.iD, .int .i64 x.phase, .str x.level]) (.agg [.int .i64 y.iD, .int .i64 y.phase, .str y.level]) = some (decide (x = y)) := by
  rw [aequal_struct ty28 eg28 si28 fun d => (aeqs_int ty3 rfl rfl (aeqs_int ty3 rfl rfl (aeqs_str ty9 rfl rfl aeqs_nil)))]
  congr 1
  cases x
  cases y
  simp only [TEntry.mk.injEq, Bool.decide_and, Bool.and_true]
theorem aeq42_TOp (x y : TOp) : aequal Try.prog 42 (.agg [.bool x.begin, .int .i64 x.iD, .int .i64 x.phase]) (.agg [.bool y.begin, .int .i64 y.iD, .int .i64 y.phase]) = some (decide (x = y)) := by
  rw [aequal_struct ty42 eg42 si42 fun d => (aeqs_bool ty4 rfl rfl (aeqs_int ty3 rfl rfl (aeqs_int ty3 rfl rfl aeqs_nil)))]
  congr 1
  cases x
  cases y
  simp only [TOp.mk.injEq, Bool.decide_and, Bool.and_true]
theorem aeq43_TOp (x y : TOp) : aequal Try.prog 43 (.agg [.bool x.begin, .int .i64 x.iD, .int .i64 x.phase]) (.agg [.bool y.begin, .int .i64 y.iD, .int .i64 y.phase]) = some (decide (x = y)) := by
  rw [aequal_struct ty43 eg43 si43 fun d => (aeqs_bool ty4 rfl rfl (aeqs_int ty3 rfl rfl (aeqs_int ty3 rfl rfl aeqs_nil)))]
  congr 1
  cases x
  cases y
  simp only [TOp.mk.injEq, Bool.decide_and, Bool.and_true]
attribute [go_sem] ty2 ty3 ty4 ty5 ty6 ty9 ty10 ty11 ty12 ty23 ty24 ty27 eg27 si27 ty28 eg28 si28 ty41 ty42 eg42 si42 ty43 eg43 si43 ty47 eg47 ty58 ty59 enc_TEntry size_TEntry enc_TOp size_TOp
attribute [go_sem ↓] aeq27_TEntry aeq28_TEntry aeq42_TOp aeq43_TOp
end Go.Proofs.Ytenlmlhepcgpiaa
