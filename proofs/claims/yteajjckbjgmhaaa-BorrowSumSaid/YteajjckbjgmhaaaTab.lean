/-
  What the types of this seat's program are, as AM's table has them. Written by gentab.py; the kernel checks each row.
-/
import Derived.Test.YteajjckbjgmhaaaProg
import Derived.Test.YteajjckbjgmhaaaAM37
import Derived.KernelRfl
namespace Go.Proofs.Yteajjckbjgmhaaa
open Go.AM
theorem ty3 : tab Try.prog 3 = some ⟨.int .i64, 1, 8, .int .i64 0⟩ := by kernel_rfl
theorem ty4 : tab Try.prog 4 = some ⟨.bool, 1, 1, .bool false⟩ := by kernel_rfl
theorem ty9 : tab Try.prog 9 = some ⟨.str, 1, 16, .str ⟨#[]⟩⟩ := by kernel_rfl
theorem ty22 : tab Try.prog 22 = some ⟨.slice 3, 1, 24, .sl [] (some 0)⟩ := by kernel_rfl
theorem ty26 : tab Try.prog 26 = some ⟨.int .i64, 1, 8, .int .i64 0⟩ := by kernel_rfl
theorem ty33 : tab Try.prog 33 = some ⟨.slice 39, 1, 24, .sl [] (some 0)⟩ := by kernel_rfl
theorem ty34 : tab Try.prog 34 = some ⟨.slice 44, 1, 24, .sl [] (some 0)⟩ := by kernel_rfl
theorem ty38 : tab Try.prog 38 = some ⟨.struct [⟨0, 1, false, 3, false⟩, ⟨1, 1, false, 3, false⟩, ⟨2, 1, false, 3, false⟩], 3, 24, .agg [.int .i64 0, .int .i64 0, .int .i64 0]⟩ := by kernel_rfl
theorem eg38 : Try.prog.eqGuardType Try.prog.depth 38 = false := by kernel_rfl
theorem si38 : Try.prog.stoodInHeld 38 = false := by kernel_rfl
theorem ty39 : tab Try.prog 39 = some ⟨.struct [⟨0, 1, false, 3, false⟩, ⟨1, 1, false, 3, false⟩, ⟨2, 1, false, 3, false⟩], 3, 24, .agg [.int .i64 0, .int .i64 0, .int .i64 0]⟩ := by kernel_rfl
theorem eg39 : Try.prog.eqGuardType Try.prog.depth 39 = false := by kernel_rfl
theorem si39 : Try.prog.stoodInHeld 39 = false := by kernel_rfl
theorem ty43 : tab Try.prog 43 = some ⟨.struct [⟨0, 1, false, 3, false⟩, ⟨1, 1, false, 3, false⟩], 2, 16, .agg [.int .i64 0, .int .i64 0]⟩ := by kernel_rfl
theorem eg43 : Try.prog.eqGuardType Try.prog.depth 43 = false := by kernel_rfl
theorem si43 : Try.prog.stoodInHeld 43 = false := by kernel_rfl
theorem ty44 : tab Try.prog 44 = some ⟨.struct [⟨0, 1, false, 3, false⟩, ⟨1, 1, false, 3, false⟩], 2, 16, .agg [.int .i64 0, .int .i64 0]⟩ := by kernel_rfl
theorem eg44 : Try.prog.eqGuardType Try.prog.depth 44 = false := by kernel_rfl
theorem si44 : Try.prog.stoodInHeld 44 = false := by kernel_rfl
theorem ty51 : tab Try.prog 51 = some ⟨.slice 57, 1, 24, .sl [] (some 0)⟩ := by kernel_rfl
theorem ty56 : tab Try.prog 56 = some ⟨.struct [⟨0, 1, false, 9, false⟩, ⟨1, 1, false, 3, false⟩, ⟨2, 1, false, 3, false⟩, ⟨3, 1, false, 3, false⟩, ⟨4, 1, false, 3, false⟩, ⟨5, 1, false, 3, false⟩, ⟨6, 1, false, 3, false⟩, ⟨7, 1, false, 3, false⟩, ⟨8, 1, false, 3, false⟩, ⟨9, 1, false, 3, false⟩], 10, 88, .agg [.str ⟨#[]⟩, .int .i64 0, .int .i64 0, .int .i64 0, .int .i64 0, .int .i64 0, .int .i64 0, .int .i64 0, .int .i64 0, .int .i64 0]⟩ := by kernel_rfl
theorem eg56 : Try.prog.eqGuardType Try.prog.depth 56 = false := by kernel_rfl
theorem si56 : Try.prog.stoodInHeld 56 = false := by kernel_rfl
theorem ty57 : tab Try.prog 57 = some ⟨.struct [⟨0, 1, false, 9, false⟩, ⟨1, 1, false, 3, false⟩, ⟨2, 1, false, 3, false⟩, ⟨3, 1, false, 3, false⟩, ⟨4, 1, false, 3, false⟩, ⟨5, 1, false, 3, false⟩, ⟨6, 1, false, 3, false⟩, ⟨7, 1, false, 3, false⟩, ⟨8, 1, false, 3, false⟩, ⟨9, 1, false, 3, false⟩], 10, 88, .agg [.str ⟨#[]⟩, .int .i64 0, .int .i64 0, .int .i64 0, .int .i64 0, .int .i64 0, .int .i64 0, .int .i64 0, .int .i64 0, .int .i64 0]⟩ := by kernel_rfl
theorem eg57 : Try.prog.eqGuardType Try.prog.depth 57 = false := by kernel_rfl
theorem si57 : Try.prog.stoodInHeld 57 = false := by kernel_rfl
theorem ty62 : tab Try.prog 62 = some ⟨.slice 64, 1, 24, .sl [] (some 0)⟩ := by kernel_rfl
theorem ty63 : tab Try.prog 63 = some ⟨.struct [⟨0, 1, false, 3, false⟩, ⟨1, 1, false, 3, false⟩], 2, 16, .agg [.int .i64 0, .int .i64 0]⟩ := by kernel_rfl
theorem eg63 : Try.prog.eqGuardType Try.prog.depth 63 = false := by kernel_rfl
theorem si63 : Try.prog.stoodInHeld 63 = false := by kernel_rfl
theorem ty64 : tab Try.prog 64 = some ⟨.struct [⟨0, 1, false, 3, false⟩, ⟨1, 1, false, 3, false⟩], 2, 16, .agg [.int .i64 0, .int .i64 0]⟩ := by kernel_rfl
theorem eg64 : Try.prog.eqGuardType Try.prog.depth 64 = false := by kernel_rfl
theorem si64 : Try.prog.stoodInHeld 64 = false := by kernel_rfl
theorem ty69 : tab Try.prog 69 = some ⟨.int .u64, 1, 8, .int .u64 0⟩ := by kernel_rfl
theorem ty77 : tab Try.prog 77 = some ⟨.int .u64, 1, 8, .int .u64 0⟩ := by kernel_rfl
theorem mixed : Try.prog.follows .mixedOrders = true := by kernel_rfl
end Go.Proofs.Yteajjckbjgmhaaa
