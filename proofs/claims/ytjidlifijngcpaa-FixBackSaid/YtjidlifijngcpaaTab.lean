/-
  What the types of this seat's program are, as AM's table has them. Written by gentab.py; the kernel checks each row.
-/
import Derived.Test.YtjidlifijngcpaaProg
import Derived.Test.YtjidlifijngcpaaAM23
import Derived.KernelRfl
namespace Go.Proofs.Ytjidlifijngcpaa
open Go.AM
theorem ty3 : tab Try.prog 3 = some ⟨.int .i64, 1, 8, .int .i64 0⟩ := by kernel_rfl
theorem ty4 : tab Try.prog 4 = some ⟨.bool, 1, 1, .bool false⟩ := by kernel_rfl
theorem ty22 : tab Try.prog 22 = some ⟨.int .u64, 1, 8, .int .u64 0⟩ := by kernel_rfl
theorem ty28 : tab Try.prog 28 = some ⟨.array 6 22, 6, 48, .agg [.int .u64 0, .int .u64 0, .int .u64 0, .int .u64 0, .int .u64 0, .int .u64 0]⟩ := by kernel_rfl
theorem eg28 : Try.prog.eqGuardType Try.prog.depth 28 = false := by kernel_rfl
theorem ty39 : tab Try.prog 39 = some ⟨.struct [⟨0, 1, false, 22, false⟩, ⟨1, 1, false, 22, false⟩], 2, 16, .agg [.int .u64 0, .int .u64 0]⟩ := by kernel_rfl
theorem eg39 : Try.prog.eqGuardType Try.prog.depth 39 = false := by kernel_rfl
theorem si39 : Try.prog.stoodInHeld 39 = false := by kernel_rfl
theorem ty43 : tab Try.prog 43 = some ⟨.int .u64, 1, 8, .int .u64 0⟩ := by kernel_rfl
theorem mixed : Try.prog.follows .mixedOrders = true := by kernel_rfl
end Go.Proofs.Ytjidlifijngcpaa
