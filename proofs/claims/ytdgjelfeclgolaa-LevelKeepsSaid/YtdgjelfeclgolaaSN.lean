/-
  Numbers for the sort's library functions: xor, and, the length in bits.
-/
import Derived.Test.YtdgjelfeclgolaaSK
import Derived.Sort.LotD5
import Derived.Lib.BitFns
import Derived.Lib.Tables
import Derived.Laws.Bits64
import Derived.Laws.Bits64b
namespace Go.AM
open Go

theorem bxorN (a b : Nat) (ha : a < 18446744073709551616) (hb : b < 18446744073709551616) : bxor .u64 (a : Int) (b : Int) = ((a ^^^ b : Nat) : Int) := bits_xor_u64_nat a b ha hb
theorem bandN (a b : Nat) (ha : a < 18446744073709551616) (hb : b < 18446744073709551616) : band .u64 (a : Int) (b : Int) = ((a &&& b : Nat) : Int) := bits_and_u64_nat a b ha hb

theorem bitLenN (x : Nat) (h : x < 2 ^ 64) : Lib.bitLen x = Sort.bitsLen x := by
  induction x using Nat.strongRecOn with
  | _ x ih =>
    by_cases h0 : x = 0
    · subst h0; rfl
    · rw [Lib.bitLen_half x h0 h, ih (x / 2) (by omega) (by omega)]
      unfold Sort.bitsLen
      rw [if_neg h0, Nat.log2_def x]
      by_cases h2 : 2 ≤ x
      · rw [if_pos h2, if_neg (by omega)]; omega
      · obtain rfl : x = 1 := by omega
        simp

theorem getBA (t : ByteArray) (x : Nat) (h : x < t.size) : t[x]? = some t[x] := getElem?_pos t x h
theorem len8def (i : Int) (t : ByteArray) (ht : t = Lib.len8tab) : Lib.len8 i = (((t[i.toNat]?).getD 0).toNat : Int) := by subst ht; rfl
theorem len8get (x : Nat) (h : x < 256) : ∃ b : UInt8, Lib.len8tab[x]? = some b ∧ b.toNat = Sort.bitsLen x := by
  have h1 : x < Lib.len8tab.size := by rw [Lib.len8tab_size]; exact h
  have e := Lib.len8_of (x : Int) (by omega) (by omega)
  obtain ⟨t, ht⟩ : ∃ t, t = Lib.len8tab := ⟨_, rfl⟩
  rw [len8def _ t ht] at e
  rw [← ht] at h1 ⊢
  have g := getBA t x h1
  rw [show ((x : Nat) : Int).toNat = x from rfl, g, bitLenN x (by omega)] at e
  exact ⟨_, g, Int.ofNat.inj e⟩

theorem bitsLen16 (x : Nat) (h : 65536 ≤ x) (h2 : x < 18446744073709551616) : Sort.bitsLen x = 16 + Sort.bitsLen (x / 65536) := by
  rw [← bitLenN x (by omega), ← bitLenN (x / 65536) (by omega)]; exact Lib.bitLen_shift16 x h h2
theorem bitsLen8 (x : Nat) (h : 256 ≤ x) (h2 : x < 18446744073709551616) : Sort.bitsLen x = 8 + Sort.bitsLen (x / 256) := by
  rw [← bitLenN x (by omega), ← bitLenN (x / 256) (by omega)]; exact Lib.bitLen_shift8 x h h2
theorem bitsLen_le33 (x : Nat) (h : x ≤ 4294967296) : Sort.bitsLen x ≤ 33 := (Sort.bitsLen_le_iff x 33).2 (by omega)

section
variable {α : Type}
/-- The rounds of the shaking that are left. -/
def bpRest [Inhabited α] (a L M i0 : Nat) : Nat → Nat → UInt64 × Array α → Array α
  | 0, _, st => st.2
  | k + 1, t, st => bpRest a L M i0 k (t + 1) (Sort.breakStep a L M st (i0 + t))
theorem breakPatterns_rest [Inhabited α] (d : Array α) (a b L : Nat) (hL : b - a = L) (h8 : 8 ≤ L) : Sort.breakPatterns d a b = bpRest a L (1 <<< Sort.bitsLen L) (a + L / 4 * 2 - 1) 3 0 (UInt64.ofNat L, d) := by
  unfold Sort.breakPatterns
  simp only [hL]
  rw [if_pos h8]
  rfl
theorem bp_step [Inhabited α] (a L M i0 t o : Nat) (r : UInt64) (d : Array α) (ht : t < 3) (ho : (if Sort.xorNextN r.toNat &&& (M - 1) ≥ L then (Sort.xorNextN r.toNat &&& (M - 1)) - L else Sort.xorNextN r.toNat &&& (M - 1)) = o) :
    bpRest a L M i0 (3 - t) t (r, d) = bpRest a L M i0 (3 - (t + 1)) (t + 1) (Sort.xorNext r, Sort.swp d (i0 + t) (a + o)) := by
  rw [show 3 - t = (3 - (t + 1)) + 1 by omega, bpRest]
  unfold Sort.breakStep
  simp only [Sort.xorNext_toNat, ho]
end

/-- A function over one cell, wherever it lies. -/
theorem FCall.cell {P : Program} {g : FuncId} {args0 args : List AVal} {r0 r : AVal} {k : IntKind} {n n' : Int} (hc : HCall P g args0 [(0, .arr 1 [[.int k n]])] 1 fun r h _ => r = r0 ∧ h = [(0, .arr 1 [[.int k n']])]) (a : Nat)
    (ha : ∀ x, x ∈ args0 → LfA (fun i => i ∈ [0]) x) (hr : LfA (fun i => i ∈ [0]) r0) (ea : args0.map (renA fun _ => a) = args) (er : renA (fun _ => a) r0 = r) : FCall P g args [(a, .arr 1 [[.int k n]])] r [(a, .arr 1 [[.int k n']])] := by
  refine FCall.of (f := fun _ => a) hc rfl (by simp) (fun e he => ?_) (fun i j hi hj _ => ?_) (fun e he => ?_) (fun e he => ?_) hr ha ea ?_ ?_ er
  · simp only [List.mem_cons, List.not_mem_nil, or_false] at he
    subst he; simp
  · simp only [List.map_cons, List.map_nil, List.mem_cons, List.not_mem_nil, or_false] at hi hj
    omega
  · simp only [List.mem_cons, List.not_mem_nil, or_false] at he
    subst he; simp [lfO_row, lf_int]
  · simp only [List.mem_cons, List.not_mem_nil, or_false] at he
    subst he; simp [lfO_row, lf_int]
  · simp only [renH, renO, ren0, List.map_cons, List.map_nil]
  · simp only [renH, renO, ren0, List.map_cons, List.map_nil]
end Go.AM
