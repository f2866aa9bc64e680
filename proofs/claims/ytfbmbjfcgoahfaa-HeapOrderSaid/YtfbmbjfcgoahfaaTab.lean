/-
  What the types of this seat's program are, as AM's table has them; the structs as Lean structures. Written by gentab2.py; the kernel checks each row.
-/
import Derived.Test.YtfbmbjfcgoahfaaProg
import Derived.Test.YtfbmbjfcgoahfaaAME
import Derived.KernelRfl
namespace Go.Proofs.Ytfbmbjfcgoahfaa
open Go Go.AM
set_option linter.unusedVariables false
set_option linter.unusedSimpArgs false
theorem ty2 : tab Try.prog 2 = some ⟨.int .i64, 1, 8, .int .i64 0⟩ := by kernel_rfl
theorem ty3 : tab Try.prog 3 = some ⟨.int .i64, 1, 8, .int .i64 0⟩ := by kernel_rfl
theorem ty4 : tab Try.prog 4 = some ⟨.bool, 1, 1, .bool false⟩ := by kernel_rfl
theorem ty5 : tab Try.prog 5 = some ⟨.int .u8, 1, 1, .int .u8 0⟩ := by kernel_rfl
theorem ty6 : tab Try.prog 6 = some ⟨.int .u8, 1, 1, .int .u8 0⟩ := by kernel_rfl
theorem ty9 : tab Try.prog 9 = some ⟨.str, 1, 16, .str ⟨#[]⟩⟩ := by kernel_rfl
theorem ty10 : tab Try.prog 10 = some ⟨.str, 1, 16, .str ⟨#[]⟩⟩ := by kernel_rfl
theorem ty11 : tab Try.prog 11 = some ⟨.str, 1, 16, .str ⟨#[]⟩⟩ := by kernel_rfl
theorem ty12 : tab Try.prog 12 = some ⟨.int .u64, 1, 8, .int .u64 0⟩ := by kernel_rfl
theorem ty22 : tab Try.prog 22 = some ⟨.slice 30, 1, 24, .sl [] (some 0)⟩ := by kernel_rfl
theorem ty24 : tab Try.prog 24 = some ⟨.ptr 79, 1, 8, .nilp⟩ := by kernel_rfl
theorem ty26 : tab Try.prog 26 = some ⟨.int .i64, 1, 8, .int .i64 0⟩ := by kernel_rfl
theorem ty28 : tab Try.prog 28 = some ⟨.int .u64, 1, 8, .int .u64 0⟩ := by kernel_rfl
theorem ty29 : tab Try.prog 29 = some ⟨.struct [⟨0, 1, false, 28, false⟩, ⟨1, 1, false, 3, false⟩], 2, 16, .agg [.int .u64 0, .int .i64 0]⟩ := by kernel_rfl
theorem eg29 : Try.prog.eqGuardType Try.prog.depth 29 = false := by kernel_rfl
theorem si29 : Try.prog.stoodInHeld 29 = false := by kernel_rfl
theorem ty30 : tab Try.prog 30 = some ⟨.struct [⟨0, 1, false, 28, false⟩, ⟨1, 1, false, 3, false⟩], 2, 16, .agg [.int .u64 0, .int .i64 0]⟩ := by kernel_rfl
theorem eg30 : Try.prog.eqGuardType Try.prog.depth 30 = false := by kernel_rfl
theorem si30 : Try.prog.stoodInHeld 30 = false := by kernel_rfl
theorem ty38 : tab Try.prog 38 = some ⟨.slice 48, 1, 24, .sl [] (some 0)⟩ := by kernel_rfl
theorem ty39 : tab Try.prog 39 = some ⟨.slice 3, 1, 24, .sl [] (some 0)⟩ := by kernel_rfl
theorem ty40 : tab Try.prog 40 = some ⟨.ptr 84, 1, 8, .nilp⟩ := by kernel_rfl
theorem ty47 : tab Try.prog 47 = some ⟨.struct [⟨0, 1, false, 3, false⟩, ⟨1, 1, false, 3, false⟩], 2, 16, .agg [.int .i64 0, .int .i64 0]⟩ := by kernel_rfl
theorem eg47 : Try.prog.eqGuardType Try.prog.depth 47 = false := by kernel_rfl
theorem si47 : Try.prog.stoodInHeld 47 = false := by kernel_rfl
theorem ty48 : tab Try.prog 48 = some ⟨.struct [⟨0, 1, false, 3, false⟩, ⟨1, 1, false, 3, false⟩], 2, 16, .agg [.int .i64 0, .int .i64 0]⟩ := by kernel_rfl
theorem eg48 : Try.prog.eqGuardType Try.prog.depth 48 = false := by kernel_rfl
theorem si48 : Try.prog.stoodInHeld 48 = false := by kernel_rfl
theorem ty50 : tab Try.prog 50 = some ⟨.int .u64, 1, 8, .int .u64 0⟩ := by kernel_rfl
theorem ty55 : tab Try.prog 55 = some ⟨.slice 59, 1, 24, .sl [] (some 0)⟩ := by kernel_rfl
theorem ty56 : tab Try.prog 56 = some ⟨.struct [⟨0, 1, false, 3, false⟩, ⟨1, 1, false, 38, false⟩], 2, 32, .agg [.int .i64 0, .sl [] (some 0)]⟩ := by kernel_rfl
theorem eg56 : Try.prog.eqGuardType Try.prog.depth 56 = false := by kernel_rfl
theorem si56 : Try.prog.stoodInHeld 56 = false := by kernel_rfl
theorem ty57 : tab Try.prog 57 = some ⟨.struct [⟨0, 1, false, 3, false⟩, ⟨1, 1, false, 38, false⟩], 2, 32, .agg [.int .i64 0, .sl [] (some 0)]⟩ := by kernel_rfl
theorem eg57 : Try.prog.eqGuardType Try.prog.depth 57 = false := by kernel_rfl
theorem si57 : Try.prog.stoodInHeld 57 = false := by kernel_rfl
theorem ty58 : tab Try.prog 58 = some ⟨.struct [⟨0, 1, false, 3, false⟩, ⟨1, 1, false, 3, false⟩, ⟨2, 1, false, 3, false⟩], 3, 24, .agg [.int .i64 0, .int .i64 0, .int .i64 0]⟩ := by kernel_rfl
theorem eg58 : Try.prog.eqGuardType Try.prog.depth 58 = false := by kernel_rfl
theorem si58 : Try.prog.stoodInHeld 58 = false := by kernel_rfl
theorem ty59 : tab Try.prog 59 = some ⟨.struct [⟨0, 1, false, 3, false⟩, ⟨1, 1, false, 3, false⟩, ⟨2, 1, false, 3, false⟩], 3, 24, .agg [.int .i64 0, .int .i64 0, .int .i64 0]⟩ := by kernel_rfl
theorem eg59 : Try.prog.eqGuardType Try.prog.depth 59 = false := by kernel_rfl
theorem si59 : Try.prog.stoodInHeld 59 = false := by kernel_rfl
theorem ty66 : tab Try.prog 66 = some ⟨.slice 68, 1, 24, .sl [] (some 0)⟩ := by kernel_rfl
theorem ty67 : tab Try.prog 67 = some ⟨.struct [⟨0, 1, false, 3, false⟩, ⟨1, 2, true, 30, false⟩], 3, 24, .agg [.int .i64 0, .int .u64 0, .int .i64 0]⟩ := by kernel_rfl
theorem eg67 : Try.prog.eqGuardType Try.prog.depth 67 = false := by kernel_rfl
theorem si67 : Try.prog.stoodInHeld 67 = false := by kernel_rfl
theorem ty68 : tab Try.prog 68 = some ⟨.struct [⟨0, 1, false, 3, false⟩, ⟨1, 2, true, 30, false⟩], 3, 24, .agg [.int .i64 0, .int .u64 0, .int .i64 0]⟩ := by kernel_rfl
theorem eg68 : Try.prog.eqGuardType Try.prog.depth 68 = false := by kernel_rfl
theorem si68 : Try.prog.stoodInHeld 68 = false := by kernel_rfl
theorem ty77 : tab Try.prog 77 = some ⟨.map 3 3, 1, 8, .nilmap⟩ := by kernel_rfl
theorem ty78 : tab Try.prog 78 = some ⟨.struct [⟨0, 1, false, 22, false⟩, ⟨1, 1, false, 77, false⟩], 2, 32, .agg [.sl [] (some 0), .nilmap]⟩ := by kernel_rfl
theorem eg78 : Try.prog.eqGuardType Try.prog.depth 78 = false := by kernel_rfl
theorem si78 : Try.prog.stoodInHeld 78 = false := by kernel_rfl
theorem ty79 : tab Try.prog 79 = some ⟨.struct [⟨0, 1, false, 22, false⟩, ⟨1, 1, false, 77, false⟩], 2, 32, .agg [.sl [] (some 0), .nilmap]⟩ := by kernel_rfl
theorem eg79 : Try.prog.eqGuardType Try.prog.depth 79 = false := by kernel_rfl
theorem si79 : Try.prog.stoodInHeld 79 = false := by kernel_rfl
theorem ty83 : tab Try.prog 83 = some ⟨.struct [⟨0, 1, false, 3, false⟩, ⟨1, 1, false, 24, false⟩], 2, 16, .agg [.int .i64 0, .nilp]⟩ := by kernel_rfl
theorem eg83 : Try.prog.eqGuardType Try.prog.depth 83 = false := by kernel_rfl
theorem si83 : Try.prog.stoodInHeld 83 = false := by kernel_rfl
theorem ty84 : tab Try.prog 84 = some ⟨.struct [⟨0, 1, false, 3, false⟩, ⟨1, 1, false, 24, false⟩], 2, 16, .agg [.int .i64 0, .nilp]⟩ := by kernel_rfl
theorem eg84 : Try.prog.eqGuardType Try.prog.depth 84 = false := by kernel_rfl
theorem si84 : Try.prog.stoodInHeld 84 = false := by kernel_rfl
theorem ty85 : tab Try.prog 85 = some ⟨.ptr 57, 1, 8, .nilp⟩ := by kernel_rfl
theorem ty95 : tab Try.prog 95 = some ⟨.int .i64, 1, 8, .int .i64 0⟩ := by kernel_rfl
theorem ty104 : tab Try.prog 104 = some ⟨.int .u64, 1, 8, .int .u64 0⟩ := by kernel_rfl
theorem ty119 : tab Try.prog 119 = some ⟨.int .u8, 1, 1, .int .u8 0⟩ := by kernel_rfl
theorem ty120 : tab Try.prog 120 = some ⟨.int .u8, 1, 1, .int .u8 0⟩ := by kernel_rfl
theorem mixed : Try.prog.follows .mixedOrders = true := by kernel_rfl
structure TItem where
  key : Int
  iD : Int
  deriving DecidableEq
instance : Enc TItem := ⟨fun x => [.int .u64 x.key, .int .i64 x.iD], 2, fun _ => rfl, fun x y h => by
  simp only [List.mem_cons, List.not_mem_nil, or_false] at h
  rcases h with rfl | rfl
  · exact .int _ _
  · exact .int _ _⟩
theorem enc_TItem (x : TItem) : Enc.enc x = [.int .u64 x.key, .int .i64 x.iD] := rfl
theorem size_TItem : Enc.size TItem = 2 := rfl
def TItem.wf (x : TItem) : Prop := (0 ≤ x.key ∧ x.key ≤ 18446744073709551615) ∧ (-9223372036854775808 ≤ x.iD ∧ x.iD ≤ 9223372036854775807)
theorem rd_TItem : RdC Try.prog 30 (fun ys => ∃ x : TItem, ys = Enc.enc x ∧ x.wf) := by
  refine RdC.mono (rd_struct Try.underlying30 (show RdS Try.prog [28, 3] _ from (rd_cons (rd_u64 Try.underlying28) (rd_cons (rd_i64 Try.underlying3) rd_nil)))) ?_
  rintro ys ⟨_, _, rfl, ⟨x0, rfl, h0⟩, ⟨_, _, rfl, ⟨x1, rfl, h1⟩, rfl⟩⟩
  exact ⟨⟨x0, x1⟩, rfl, h0, h1⟩
structure TDue where
  iD : Int
  at_ : Int
  deriving DecidableEq
instance : Enc TDue := ⟨fun x => [.int .i64 x.iD, .int .i64 x.at_], 2, fun _ => rfl, fun x y h => by
  simp only [List.mem_cons, List.not_mem_nil, or_false] at h
  rcases h with rfl | rfl
  · exact .int _ _
  · exact .int _ _⟩
theorem enc_TDue (x : TDue) : Enc.enc x = [.int .i64 x.iD, .int .i64 x.at_] := rfl
theorem size_TDue : Enc.size TDue = 2 := rfl
def TDue.wf (x : TDue) : Prop := (-9223372036854775808 ≤ x.iD ∧ x.iD ≤ 9223372036854775807) ∧ (-9223372036854775808 ≤ x.at_ ∧ x.at_ ≤ 9223372036854775807)
theorem rd_TDue : RdC Try.prog 48 (fun ys => ∃ x : TDue, ys = Enc.enc x ∧ x.wf) := by
  refine RdC.mono (rd_struct Try.underlying48 (show RdS Try.prog [3, 3] _ from (rd_cons (rd_i64 Try.underlying3) (rd_cons (rd_i64 Try.underlying3) rd_nil)))) ?_
  rintro ys ⟨_, _, rfl, ⟨x0, rfl, h0⟩, ⟨_, _, rfl, ⟨x1, rfl, h1⟩, rfl⟩⟩
  exact ⟨⟨x0, x1⟩, rfl, h0, h1⟩
structure TOp5 where
  do_ : Int
  iD : Int
  at_ : Int
  deriving DecidableEq
instance : Enc TOp5 := ⟨fun x => [.int .i64 x.do_, .int .i64 x.iD, .int .i64 x.at_], 3, fun _ => rfl, fun x y h => by
  simp only [List.mem_cons, List.not_mem_nil, or_false] at h
  rcases h with rfl | rfl | rfl
  · exact .int _ _
  · exact .int _ _
  · exact .int _ _⟩
theorem enc_TOp5 (x : TOp5) : Enc.enc x = [.int .i64 x.do_, .int .i64 x.iD, .int .i64 x.at_] := rfl
theorem size_TOp5 : Enc.size TOp5 = 3 := rfl
def TOp5.wf (x : TOp5) : Prop := (-9223372036854775808 ≤ x.do_ ∧ x.do_ ≤ 9223372036854775807) ∧ (-9223372036854775808 ≤ x.iD ∧ x.iD ≤ 9223372036854775807) ∧ (-9223372036854775808 ≤ x.at_ ∧ x.at_ ≤ 9223372036854775807)
theorem rd_TOp5 : RdC Try.prog 59 (fun ys => ∃ x : TOp5, ys = Enc.enc x ∧ x.wf) := by
  refine RdC.mono (rd_struct Try.underlying59 (show RdS Try.prog [3, 3, 3] _ from (rd_cons (rd_i64 Try.underlying3) (rd_cons (rd_i64 Try.underlying3) (rd_cons (rd_i64 Try.underlying3) rd_nil))))) ?_
  rintro ys ⟨_, _, rfl, ⟨x0, rfl, h0⟩, ⟨_, _, rfl, ⟨x1, rfl, h1⟩, ⟨_, _, rfl, ⟨x2, rfl, h2⟩, rfl⟩⟩⟩
  exact ⟨⟨x0, x1, x2⟩, rfl, h0, h1, h2⟩
structure TRClock where
  now : Int
  l : List TDue
  deriving DecidableEq
instance : Enc TRClock := ⟨fun x => [.int .i64 x.now, .sl (rws x.l) none], 2, fun _ => rfl, fun x y h => by
  simp only [List.mem_cons, List.not_mem_nil, or_false] at h
  rcases h with rfl | rfl
  · exact .int _ _
  · exact rws_fz _ _⟩
theorem enc_TRClock (x : TRClock) : Enc.enc x = [.int .i64 x.now, .sl (rws x.l) none] := rfl
theorem size_TRClock : Enc.size TRClock = 2 := rfl
def TRClock.wf (x : TRClock) : Prop := (-9223372036854775808 ≤ x.now ∧ x.now ≤ 9223372036854775807) ∧ (x.l.length ≤ maxLen ∧ ∀ a, a ∈ x.l → a.wf)
theorem rd_TRClock : RdC Try.prog 57 (fun ys => ∃ x : TRClock, ys = Enc.enc x ∧ x.wf) := by
  refine RdC.mono (rd_struct Try.underlying57 (show RdS Try.prog [3, 38] _ from (rd_cons (rd_i64 Try.underlying3) (rd_cons (rd_slice (α := TDue) Try.underlying38 (by kernel_rfl) rd_TDue) rd_nil)))) ?_
  rintro ys ⟨_, _, rfl, ⟨x0, rfl, h0⟩, ⟨_, _, rfl, ⟨x1, rfl, h1⟩, rfl⟩⟩
  exact ⟨⟨x0, x1⟩, rfl, h0, h1⟩
structure TOp4 where
  do_ : Int
  x : TItem
  deriving DecidableEq
instance : Enc TOp4 := ⟨fun x => [.int .i64 x.do_, .int .u64 x.x.key, .int .i64 x.x.iD], 3, fun _ => rfl, fun x y h => by
  simp only [List.mem_cons, List.not_mem_nil, or_false] at h
  rcases h with rfl | rfl | rfl
  · exact .int _ _
  · exact .int _ _
  · exact .int _ _⟩
theorem enc_TOp4 (x : TOp4) : Enc.enc x = [.int .i64 x.do_, .int .u64 x.x.key, .int .i64 x.x.iD] := rfl
theorem size_TOp4 : Enc.size TOp4 = 3 := rfl
def TOp4.wf (x : TOp4) : Prop := (-9223372036854775808 ≤ x.do_ ∧ x.do_ ≤ 9223372036854775807) ∧ x.x.wf
theorem rd_TOp4 : RdC Try.prog 68 (fun ys => ∃ x : TOp4, ys = Enc.enc x ∧ x.wf) := by
  refine RdC.mono (rd_struct Try.underlying68 (show RdS Try.prog [3, 30] _ from (rd_cons (rd_i64 Try.underlying3) (rd_cons rd_TItem rd_nil)))) ?_
  rintro ys ⟨_, _, rfl, ⟨x0, rfl, h0⟩, ⟨_, _, rfl, ⟨x1, rfl, h1⟩, rfl⟩⟩
  exact ⟨⟨x0, x1⟩, rfl, h0, h1⟩
theorem aeq29_TItem (x y : TItem) : aequal Try.prog 29 (.agg [.int .u64 x.key, .int .i64 x.iD]) (.agg [.int .u64 y.key, .int .i64 y.iD]) = some (decide (x = y)) := by
  rw [aequal_struct ty29 eg29 si29 fun d => (aeqs_int ty28 rfl rfl (aeqs_int ty3 rfl rfl aeqs_nil))]
  congr 1
  cases x
  cases y
  simp only [TItem.mk.injEq, Bool.decide_and, Bool.and_true]
theorem aeq30_TItem (x y : TItem) : aequal Try.prog 30 (.agg [.int .u64 x.key, .int .i64 x.iD]) (.agg [.int .u64 y.key, .int .i64 y.iD]) = some (decide (x = y)) := by
  rw [aequal_struct ty30 eg30 si30 fun d => (aeqs_int ty28 rfl rfl (aeqs_int ty3 rfl rfl aeqs_nil))]
  congr 1
  cases x
  cases y
  simp only [TItem.mk.injEq, Bool.decide_and, Bool.and_true]
theorem aeq47_TDue (x y : TDue) : aequal Try.prog 47 (.agg [.int .i64 x.iD, .int .i64 x.at_]) (.agg [.int .i64 y.iD, .int .i64 y.at_]) = some (decide (x = y)) := by
  rw [aequal_struct ty47 eg47 si47 fun d => (aeqs_int ty3 rfl rfl (aeqs_int ty3 rfl rfl aeqs_nil))]
  congr 1
  cases x
  cases y
  simp only [TDue.mk.injEq, Bool.decide_and, Bool.and_true]
theorem aeq48_TDue (x y : TDue) : aequal Try.prog 48 (.agg [.int .i64 x.iD, .int .i64 x.at_]) (.agg [.int .i64 y.iD, .int .i64 y.at_]) = some (decide (x = y)) := by
  rw [aequal_struct ty48 eg48 si48 fun d => (aeqs_int ty3 rfl rfl (aeqs_int ty3 rfl rfl aeqs_nil))]
  congr 1
  cases x
  cases y
  simp only [TDue.mk.injEq, Bool.decide_and, Bool.and_true]
theorem aeq58_TOp5 (x y : TOp5) : aequal Try.prog 58 (.agg [.int .i64 x.do_, .int .i64 x.iD, .int .i64 x.at_]) (.agg [.int .i64 y.do_, .int .i64 y.iD, .int .i64 y.at_]) = some (decide (x = y)) := by
  rw [aequal_struct ty58 eg58 si58 fun d => (aeqs_int ty3 rfl rfl (aeqs_int ty3 rfl rfl (aeqs_int ty3 rfl rfl aeqs_nil)))]
  congr 1
  cases x
  cases y
  simp only [TOp5.mk.injEq, Bool.decide_and, Bool.and_true]
theorem aeq59_TOp5 (x y : TOp5) : aequal Try.prog 59 (.agg [.int .i64 x.do_, .int .i64 x.iD, .int .i64 x.at_]) (.agg [.int .i64 y.do_, .int .i64 y.iD, .int .i64 y.at_]) = some (decide (x = y)) := by
  rw [aequal_struct ty59 eg59 si59 fun d => (aeqs_int ty3 rfl rfl (aeqs_int ty3 rfl rfl (aeqs_int ty3 rfl rfl aeqs_nil)))]
  congr 1
  cases x
  cases y
  simp only [TOp5.mk.injEq, Bool.decide_and, Bool.and_true]
attribute [go_sem] ty2 ty3 ty4 ty5 ty6 ty9 ty10 ty11 ty12 ty22 ty24 ty26 ty28 ty29 eg29 si29 ty30 eg30 si30 ty38 ty39 ty40 ty47 eg47 si47 ty48 eg48 si48 ty50 ty55 ty56 eg56 si56 ty57 eg57 si57 ty58 eg58 si58 ty59 eg59 si59 ty66 ty67 eg67 si67 ty68 eg68 si68 ty77 ty78 eg78 si78 ty79 eg79 si79 ty83 eg83 si83 ty84 eg84 si84 ty85 ty95 ty104 ty119 ty120 enc_TItem size_TItem enc_TDue size_TDue enc_TOp5 size_TOp5 enc_TRClock size_TRClock enc_TOp4 size_TOp4
attribute [go_sem ↓] aeq29_TItem aeq30_TItem aeq47_TDue aeq48_TDue aeq58_TOp5 aeq59_TOp5
end Go.Proofs.Ytfbmbjfcgoahfaa
