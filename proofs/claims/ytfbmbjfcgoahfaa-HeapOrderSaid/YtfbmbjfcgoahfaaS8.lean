/-
  slices.SortFunc at a struct: the length in bits, the shaking; walked. From a template.
-/
import Derived.Test.YtfbmbjfcgoahfaaS7
import Derived.Test.YtfbmbjfcgoahfaaSN
namespace Go.Proofs.Ytfbmbjfcgoahfaa
open Go Go.AM
set_option maxHeartbeats 8000000
set_option maxRecDepth 8000
set_option linter.unusedSimpArgs false
set_option linter.unusedVariables false

theorem len64_ok (x : Nat) (hx : x ≤ 4294967296) : PCall Try.prog 63 [.int .u64 x] (· = .int .i64 (Sort.bitsLen x)) := by
  have k8 : ∀ n : Nat, n < 256 → IntKind.u8.wrap (n : Int) = (n : Int) := fun n h => by rw [IntKind.wrap_u8]; omega
  by_cases h32 : x = 4294967296
  · subst h32
    obtain ⟨y, hy1, hy2⟩ := len8get 1 (by omega)
    have e : ((y.toNat : Nat) : Int) = 1 := by rw [hy2]; rfl
    have u1 : ((4294967296 : Nat) : Int) = 4294967296 := rfl
    have u2 : (4294967296 : Int).fdiv 4294967296 = 1 := by decide
    have u3 : IntKind.u8.wrap 1 = 1 := by decide
    have e4 : ((Sort.bitsLen 4294967296 : Nat) : Int) = 33 := by decide +kernel
    refine PCall_intro (c := Try.f63.body.getD .skip) Try.func63 rfl (by decide +kernel) Zf (W_start ?_)
    simp only [Try.f63, go_sem]
    have zz1 := u2
    have zz2 := u3
    have zz3 := hy1
    have zz4 := e
    have zz5 := e4
    have zz6 := u1
    repeat' first
      | refine Z6 ?_
      | refine Zx ?_
      | (refine Ze ?_; clear hK K)
      | refine W_reg fun K hK => ?_
      | refine W_drwR rfl mixed (by decide +kernel) fun K hK => ?_
      | refine W_drw mixed (by decide +kernel) fun K hK => ?_
      | (refine Zb ?_ ?_ <;> intro hb <;> first | (simp (disch := omega) only [go_sem, zz1, zz2, zz3, zz4, zz5, zz6] at hb; done) | (simp (disch := omega) only [go_sem, zz1, zz2, zz3, zz4, zz5, zz6] at hb; try omega) | try omega)
      | (refine Zl ?_; intro bn hnil; (try simp (disch := omega) only [go_sem, zz1, zz2, zz3, zz4, zz5, zz6] at hnil); dsimp only [putT, List.set_cons_succ, List.set_cons_zero])
    exact Zr
  · by_cases h16 : 65536 ≤ x
    · have l16 := bitsLen16 x h16 (by omega)
      rw [l16]
      obtain ⟨z, hz⟩ : ∃ z, x / 65536 = z := ⟨_, rfl⟩
      rw [hz]
      have u1 : (x : Int).fdiv 65536 = (z : Int) := by rw [Int.fdiv_eq_ediv_of_nonneg _ (by omega)]; omega
      by_cases h8 : 256 ≤ z
      · have l8 := bitsLen8 z h8 (by omega)
        rw [l8]
        obtain ⟨v, hv⟩ : ∃ v, z / 256 = v := ⟨_, rfl⟩
        rw [hv]
        have u2 : (z : Int).fdiv 256 = (v : Int) := by rw [Int.fdiv_eq_ediv_of_nonneg _ (by omega)]; omega
        obtain ⟨y, hy1, hy2⟩ := len8get v (by omega)
        have e : ((y.toNat : Nat) : Int) = (Sort.bitsLen v : Nat) := by rw [hy2]
        have u3 := k8 v (by omega)
        have e4 : Sort.bitsLen v ≤ 33 := bitsLen_le33 v (by omega)
        have u9 : (24 : Int) + (Sort.bitsLen v : Nat) = ((16 + (8 + Sort.bitsLen v) : Nat) : Int) := by omega
        refine PCall_intro (c := Try.f63.body.getD .skip) Try.func63 rfl (by decide +kernel) Zf (W_start ?_)
        simp only [Try.f63, go_sem]
        have zz1 := u1
        have zz2 := u2
        have zz3 := u3
        have zz4 := hy1
        have zz5 := e
        have zz6 := u9
        repeat' first
          | refine Z6 ?_
          | refine Zx ?_
          | (refine Ze ?_; clear hK K)
          | refine W_reg fun K hK => ?_
          | refine W_drwR rfl mixed (by decide +kernel) fun K hK => ?_
          | refine W_drw mixed (by decide +kernel) fun K hK => ?_
          | (refine Zb ?_ ?_ <;> intro hb <;> first | (simp (disch := omega) only [go_sem, zz1, zz2, zz3, zz4, zz5, zz6] at hb; done) | (simp (disch := omega) only [go_sem, zz1, zz2, zz3, zz4, zz5, zz6] at hb; try omega) | try omega)
          | (refine Zl ?_; intro bn hnil; (try simp (disch := omega) only [go_sem, zz1, zz2, zz3, zz4, zz5, zz6] at hnil); dsimp only [putT, List.set_cons_succ, List.set_cons_zero])
        exact Zr
      · obtain ⟨y, hy1, hy2⟩ := len8get z (by omega)
        have e : ((y.toNat : Nat) : Int) = (Sort.bitsLen z : Nat) := by rw [hy2]
        have u3 := k8 z (by omega)
        have e4 : Sort.bitsLen z ≤ 33 := bitsLen_le33 z (by omega)
        have u9 : (16 : Int) + (Sort.bitsLen z : Nat) = ((16 + Sort.bitsLen z : Nat) : Int) := by omega
        refine PCall_intro (c := Try.f63.body.getD .skip) Try.func63 rfl (by decide +kernel) Zf (W_start ?_)
        simp only [Try.f63, go_sem]
        have zz1 := u1
        have zz2 := u3
        have zz3 := hy1
        have zz4 := e
        have zz5 := u9
        repeat' first
          | refine Z5 ?_
          | refine Zx ?_
          | (refine Ze ?_; clear hK K)
          | refine W_reg fun K hK => ?_
          | refine W_drwR rfl mixed (by decide +kernel) fun K hK => ?_
          | refine W_drw mixed (by decide +kernel) fun K hK => ?_
          | (refine Zb ?_ ?_ <;> intro hb <;> first | (simp (disch := omega) only [go_sem, zz1, zz2, zz3, zz4, zz5] at hb; done) | (simp (disch := omega) only [go_sem, zz1, zz2, zz3, zz4, zz5] at hb; try omega) | try omega)
          | (refine Zl ?_; intro bn hnil; (try simp (disch := omega) only [go_sem, zz1, zz2, zz3, zz4, zz5] at hnil); dsimp only [putT, List.set_cons_succ, List.set_cons_zero])
        exact Zr
    · by_cases h8 : 256 ≤ x
      · have l8 := bitsLen8 x h8 (by omega)
        rw [l8]
        obtain ⟨v, hv⟩ : ∃ v, x / 256 = v := ⟨_, rfl⟩
        rw [hv]
        have u2 : (x : Int).fdiv 256 = (v : Int) := by rw [Int.fdiv_eq_ediv_of_nonneg _ (by omega)]; omega
        obtain ⟨y, hy1, hy2⟩ := len8get v (by omega)
        have e : ((y.toNat : Nat) : Int) = (Sort.bitsLen v : Nat) := by rw [hy2]
        have u3 := k8 v (by omega)
        have e4 : Sort.bitsLen v ≤ 33 := bitsLen_le33 v (by omega)
        have u9 : (8 : Int) + (Sort.bitsLen v : Nat) = ((8 + Sort.bitsLen v : Nat) : Int) := by omega
        refine PCall_intro (c := Try.f63.body.getD .skip) Try.func63 rfl (by decide +kernel) Zf (W_start ?_)
        simp only [Try.f63, go_sem]
        have zz1 := u2
        have zz2 := u3
        have zz3 := hy1
        have zz4 := e
        have zz5 := u9
        repeat' first
          | refine Z5 ?_
          | refine Zx ?_
          | (refine Ze ?_; clear hK K)
          | refine W_reg fun K hK => ?_
          | refine W_drwR rfl mixed (by decide +kernel) fun K hK => ?_
          | refine W_drw mixed (by decide +kernel) fun K hK => ?_
          | (refine Zb ?_ ?_ <;> intro hb <;> first | (simp (disch := omega) only [go_sem, zz1, zz2, zz3, zz4, zz5] at hb; done) | (simp (disch := omega) only [go_sem, zz1, zz2, zz3, zz4, zz5] at hb; try omega) | try omega)
          | (refine Zl ?_; intro bn hnil; (try simp (disch := omega) only [go_sem, zz1, zz2, zz3, zz4, zz5] at hnil); dsimp only [putT, List.set_cons_succ, List.set_cons_zero])
        exact Zr
      · obtain ⟨y, hy1, hy2⟩ := len8get x (by omega)
        have e : ((y.toNat : Nat) : Int) = (Sort.bitsLen x : Nat) := by rw [hy2]
        have u3 := k8 x (by omega)
        have e4 : Sort.bitsLen x ≤ 33 := bitsLen_le33 x (by omega)
        refine PCall_intro (c := Try.f63.body.getD .skip) Try.func63 rfl (by decide +kernel) Zf (W_start ?_)
        simp only [Try.f63, go_sem]
        have zz1 := u3
        have zz2 := hy1
        have zz3 := e
        have zz4 := Int.zero_add
        repeat' first
          | refine Z4 ?_
          | refine Zx ?_
          | (refine Ze ?_; clear hK K)
          | refine W_reg fun K hK => ?_
          | refine W_drwR rfl mixed (by decide +kernel) fun K hK => ?_
          | refine W_drw mixed (by decide +kernel) fun K hK => ?_
          | (refine Zb ?_ ?_ <;> intro hb <;> first | (simp (disch := omega) only [go_sem, zz1, zz2, zz3, zz4] at hb; done) | (simp (disch := omega) only [go_sem, zz1, zz2, zz3, zz4] at hb; try omega) | try omega)
          | (refine Zl ?_; intro bn hnil; (try simp (disch := omega) only [go_sem, zz1, zz2, zz3, zz4] at hnil); dsimp only [putT, List.set_cons_succ, List.set_cons_zero])
        exact Zr

theorem len_ok (x : Nat) (hx : x ≤ 4294967296) : PCall Try.prog 53 [.int .u64 x] (· = .int .i64 (Sort.bitsLen x)) := by
  have c1 := len64_ok x hx
  have u1 : IntKind.u64.wrap (x : Int) = (x : Int) := by rw [IntKind.wrap_u64]; omega
  refine PCall_intro (c := Try.f53.body.getD .skip) Try.func53 rfl (by decide +kernel) Zf (W_start ?_)
  simp only [Try.f53, go_sem]
  have zz1 := u1
  repeat' first
    | refine Z1 ?_
    | refine Zx ?_
    | refine Zc c1 ?_
    | (refine Ze ?_; clear hK K)
    | refine W_reg fun K hK => ?_
    | refine W_drwR rfl mixed (by decide +kernel) fun K hK => ?_
    | refine W_drw mixed (by decide +kernel) fun K hK => ?_
    | (refine Zb ?_ ?_ <;> intro hb <;> first | (simp (disch := omega) only [go_sem, zz1] at hb; done) | (simp (disch := omega) only [go_sem, zz1] at hb; try omega) | try omega)
    | (refine Zl ?_; intro bn hnil; (try simp (disch := omega) only [go_sem, zz1] at hnil); dsimp only [putT, List.set_cons_succ, List.set_cons_zero])
  refine W_cond (b := false) rfl (by simp) fun _ => ?_
  have zz1 := u1
  repeat' first
    | refine Z1 ?_
    | refine Zx ?_
    | refine Zc c1 ?_
    | (refine Ze ?_; clear hK K)
    | refine W_reg fun K hK => ?_
    | refine W_drwR rfl mixed (by decide +kernel) fun K hK => ?_
    | refine W_drw mixed (by decide +kernel) fun K hK => ?_
    | (refine Zb ?_ ?_ <;> intro hb <;> first | (simp (disch := omega) only [go_sem, zz1] at hb; done) | (simp (disch := omega) only [go_sem, zz1] at hb; try omega) | try omega)
    | (refine Zl ?_; intro bn hnil; (try simp (disch := omega) only [go_sem, zz1] at hnil); dsimp only [putT, List.set_cons_succ, List.set_cons_zero])
  exact Zr

theorem np2_ok (x : Nat) (hx : x ≤ 4294967296) : PCall Try.prog 65 [.int .i64 x] (· = .int .u64 ((1 <<< Sort.bitsLen x : Nat) : Int)) := by
  have c1 := len_ok x hx
  have u1 : IntKind.u64.wrap (x : Int) = (x : Int) := by rw [IntKind.wrap_u64]; omega
  have e4 := bitsLen_le33 x hx
  generalize Sort.bitsLen x = l at *
  have h2 : (2 : Nat) ^ l ≤ 2 ^ 33 := Nat.pow_le_pow_right (by decide) e4
  have u2 : min ((l : Int)).toNat 64 = l := by omega
  have u3 : IntKind.u64.wrap ((2 : Int) ^ l) = ((1 <<< l : Nat) : Int) := by
    rw [IntKind.wrap_u64, Nat.one_shiftLeft, show ((2 : Int) ^ l) = ((2 ^ l : Nat) : Int) by push_cast; rfl]
    generalize (2 : Nat) ^ l = p at h2
    omega
  refine PCall_intro (c := Try.f65.body.getD .skip) Try.func65 rfl (by decide +kernel) Zf (W_start ?_)
  simp only [Try.f65, go_sem]
  have zz1 := u1
  have zz2 := u2
  have zz3 := u3
  have zz4 := Int.one_mul
  repeat' first
    | refine Z4 ?_
    | refine Zx ?_
    | refine Zc c1 ?_
    | (refine Ze ?_; clear hK K)
    | refine W_reg fun K hK => ?_
    | refine W_drwR rfl mixed (by decide +kernel) fun K hK => ?_
    | refine W_drw mixed (by decide +kernel) fun K hK => ?_
    | (refine Zb ?_ ?_ <;> intro hb <;> first | (simp (disch := omega) only [go_sem, zz1, zz2, zz3, zz4] at hb; done) | (simp (disch := omega) only [go_sem, zz1, zz2, zz3, zz4] at hb; try omega) | try omega)
    | (refine Zl ?_; intro bn hnil; (try simp (disch := omega) only [go_sem, zz1, zz2, zz3, zz4] at hnil); dsimp only [putT, List.set_cons_succ, List.set_cons_zero])
  exact Zr

theorem xor_ok (x : Nat) (hx : x < 18446744073709551616) : HCall Try.prog 66 [.ptr 0 1 0 0] [(0, .arr 1 [[.int .u64 x]])] 1
    (fun r h _ => r = .int .u64 (Sort.xorNextN x) ∧ h = [(0, .arr 1 [[.int .u64 (Sort.xorNextN x)]])]) := by
  unfold Sort.xorNextN
  simp only []
  obtain ⟨a, ha⟩ : ∃ a, x ^^^ (x * 8192 % 18446744073709551616) = a := ⟨_, rfl⟩
  rw [ha]
  obtain ⟨b, hb⟩ : ∃ b, a ^^^ (a / 128) = b := ⟨_, rfl⟩
  rw [hb]
  obtain ⟨e, he⟩ : ∃ e, b ^^^ (b * 131072 % 18446744073709551616) = e := ⟨_, rfl⟩
  rw [he]
  have la : a < 18446744073709551616 := by rw [← ha]; exact Nat.xor_lt_two_pow (n := 64) (by omega) (by omega)
  have lb : b < 18446744073709551616 := by rw [← hb]; exact Nat.xor_lt_two_pow (n := 64) (by omega) (by omega)
  have le : e < 18446744073709551616 := by rw [← he]; exact Nat.xor_lt_two_pow (n := 64) (by omega) (by omega)
  have u1 : IntKind.u64.wrap ((x : Int) * 8192) = ((x * 8192 % 18446744073709551616 : Nat) : Int) := by rw [IntKind.wrap_u64]; omega
  have u2 := bxorN x (x * 8192 % 18446744073709551616) hx (by omega)
  rw [ha] at u2
  have u3 : (a : Int).fdiv 128 = ((a / 128 : Nat) : Int) := by rw [Int.fdiv_eq_ediv_of_nonneg _ (by omega)]; omega
  have u4 := bxorN a (a / 128) la (by omega)
  rw [hb] at u4
  have u5 : IntKind.u64.wrap ((b : Int) * 131072) = ((b * 131072 % 18446744073709551616 : Nat) : Int) := by rw [IntKind.wrap_u64]; omega
  have u6 := bxorN b (b * 131072 % 18446744073709551616) lb (by omega)
  rw [he] at u6
  refine HCall_intro (c := Try.f66.body.getD .skip) Try.func66 rfl (by decide +kernel) (W_start ?_)
  simp only [Try.f66, go_sem]
  have zz1 := u1
  have zz2 := u2
  have zz3 := u3
  have zz4 := u4
  have zz5 := u5
  have zz6 := u6
  repeat' first
    | refine Z6 ?_
    | refine Zx ?_
    | (refine Ze ?_; clear hK K)
    | refine W_reg fun K hK => ?_
    | refine W_drwR rfl mixed (by decide +kernel) fun K hK => ?_
    | refine W_drw mixed (by decide +kernel) fun K hK => ?_
    | (refine Zb ?_ ?_ <;> intro hb <;> first | (simp (disch := omega) only [go_sem, zz1, zz2, zz3, zz4, zz5, zz6] at hb; done) | (simp (disch := omega) only [go_sem, zz1, zz2, zz3, zz4, zz5, zz6] at hb; try omega) | try omega)
    | (refine Zl ?_; intro bn hnil; (try simp (disch := omega) only [go_sem, zz1, zz2, zz3, zz4, zz5, zz6] at hnil); dsimp only [putT, List.set_cons_succ, List.set_cons_zero])
  exact Zrf

theorem xor_F (x : Nat) (hx : x < 18446744073709551616) (A : Nat) : FCall Try.prog 66 [.ptr A 1 0 0] [(A, .arr 1 [[.int .u64 x]])] (.int .u64 (Sort.xorNextN x)) [(A, .arr 1 [[.int .u64 (Sort.xorNextN x)]])] :=
  FCall.cell (xor_ok x hx) A (by simp [lfA_leaf, lf_ptr]) (.leaf _ (.fz _ (.int _ _))) rfl rfl

theorem brk_ok (d : Array TItem) (a b : Nat) (h8 : 8 ≤ b - a) (hb : b ≤ d.size) (hn : d.size ≤ 4294967296) : HCall Try.prog 56 [.ref 0 d.size 0 d.size false d.size, .int .i64 a, .int .i64 b, .func (.func 50) [] []] [(0, .arr 2 (rws d.toList))] 1
    (fun r h _ => r = .tuple [] ∧ h = [(0, .arr 2 (rws (Sort.breakPatterns d a b).toList))]) := by
  obtain ⟨L, hL⟩ : ∃ L, b - a = L := ⟨_, rfl⟩
  rw [breakPatterns_rest d a b L hL (by omega)]
  rw [hL] at h8
  have c1 := np2_ok L (by omega)
  have hM2 := Sort.two_pow_bitsLen_le (n := L) (by omega)
  have hM1 := Sort.lt_two_pow_bitsLen L
  rw [← Nat.one_shiftLeft] at hM1 hM2
  generalize 1 <<< Sort.bitsLen L = M at *
  obtain ⟨q, hq⟩ : ∃ q, L / 4 = q := ⟨_, rfl⟩
  have hr : (UInt64.ofNat L).toNat = L := by rw [UInt64.toNat_ofNat']; exact Nat.mod_eq_of_lt (by omega)
  rw [hq]
  obtain ⟨i0, hi0⟩ : ∃ i0, a + q * 2 - 1 = i0 := ⟨_, rfl⟩
  rw [hi0]
  generalize UInt64.ofNat L = r0 at *
  obtain ⟨R, hR⟩ : ∃ R, bpRest a L M i0 3 0 (r0, d) = R := ⟨_, rfl⟩
  rw [hR]
  generalize hN : d.size = N at *
  have u0 : (b : Int) - (a : Int) = (L : Int) := by omega
  have u1 : ((L : Int)).tdiv 4 = (q : Int) := by
    rw [Int.tdiv_eq_ediv_of_nonneg (by omega)]; omega
  have u2 : (a : Int) + (q : Int) * 2 = ((a + q * 2 : Nat) : Int) := by omega
  have u3 : ((a + q * 2 : Nat) : Int) - 1 = (i0 : Int) := by omega
  have u4 : IntKind.u64.wrap (L : Int) = (L : Int) := by rw [IntKind.wrap_u64]; omega
  refine HCall_intro (c := Try.f56.body.getD .skip) Try.func56 rfl (by decide +kernel) (W_start ?_)
  simp only [Try.f56, go_sem]
  have zz1 := u0
  have zz2 := u1
  have zz3 := u2
  have zz4 := u3
  have zz5 := u4
  repeat' first
    | refine Z5 ?_
    | refine Zx ?_
    | refine Zc c1 ?_
    | (refine Ze ?_; clear hK K)
    | refine W_reg fun K hK => ?_
    | refine W_drwR rfl mixed (by decide +kernel) fun K hK => ?_
    | refine W_drw mixed (by decide +kernel) fun K hK => ?_
    | (refine Zb ?_ ?_ <;> intro hb <;> first | (simp (disch := omega) only [go_sem, zz1, zz2, zz3, zz4, zz5] at hb; done) | (simp (disch := omega) only [go_sem, zz1, zz2, zz3, zz4, zz5] at hb; try omega) | try omega)
    | (refine Zl ?_; intro bn hnil; (try simp (disch := omega) only [go_sem, zz1, zz2, zz3, zz4, zz5] at hnil); dsimp only [putT, List.set_cons_succ, List.set_cons_zero])
  refine W_foldM (fun (q : Nat × UInt64 × Array TItem) => [none, none, none, none, none, none, none, none, none, none, none, some (.int .i64 ((i0 + q.1 : Nat) : Int)), some .junk, none, none, none, none, none, none, none, none, none, none, none, none, none, none, none, some .junk, some .junk, some .junk, some .junk, some .junk, some .junk, some .junk, some .junk, some .junk, some .junk, some .junk, some .junk, some .junk, some .junk, some .junk, some .junk, some .junk, some .junk, some .junk, some .junk, some .junk, some .junk, some .junk, some .junk, some .junk, some .junk, some .junk, some .junk, some .junk, some .junk, some .junk, some .junk, some .junk, some .junk, some .junk, some .junk, some .junk, some .junk, some .junk]) (fun q => [(9, .arr 1 [[.int .u64 q.2.1.toNat]]), (0, .arr 2 (rws q.2.2.toList))])
    (fun q => q.1 ≤ 3 ∧ q.2.2.size = N ∧ bpRest a L M i0 (3 - q.1) q.1 (q.2.1, q.2.2) = R) (fun q => 3 - q.1) (0, r0, d) ⟨by simp, hN, hR⟩ (by simp only [hr, Nat.add_zero]; exact (by exact weak_mk wkD wkH wkN wkM (by omega))) ?_
  clear hR hN hr
  rintro ⟨t, r, d1⟩ ⟨h1, h2, h3⟩
  simp only [] at h1 h2 h3
  simp only [msk_none, msk_some, msk_nil]
  have hl1 := srl d1
  rw [h2] at hl1
  have u5 : (a : Int) + (q : Int) * 2 + 1 = ((i0 + 2 : Nat) : Int) := by omega
  by_cases ht : t < 3
  · have lr := r.toNat_lt
    have c2 := xor_F r.toNat lr 9
    have lx := Sort.xorNextN_lt r.toNat lr
    have bl := Nat.and_le_right (n := Sort.xorNextN r.toNat) (m := M - 1)
    obtain ⟨o, ho⟩ : ∃ o, Sort.xorNextN r.toNat &&& (M - 1) = o := ⟨_, rfl⟩
    have v1 := bandN (Sort.xorNextN r.toNat) (M - 1) lx (by omega)
    rw [ho] at v1 bl
    have v2 : (M : Int) - 1 = ((M - 1 : Nat) : Int) := by omega
    have v3 : IntKind.i64.wrap (o : Int) = (o : Int) := by rw [IntKind.wrap_i64]; omega
    have w1 : ((i0 + t : Nat) : Int) + 1 = ((i0 + (t + 1) : Nat) : Int) := by omega
    by_cases hoL : o ≥ L
    · have st := bp_step a L M i0 t (o - L) r d1 ht (by rw [ho, if_pos hoL])
      rw [st] at h3
      have v5 : (a : Int) + ((o : Int) - (L : Int)) = ((a + (o - L) : Nat) : Int) := by omega
      have x1 := sget d1 (i := i0 + t) (by omega)
      have x2 := sget d1 (i := a + (o - L)) (by omega)
      have e1 := sset d1 (i0 + t) d1[a + (o - L)]!
      have e2 := ssw d1 (i0 + t) (a + (o - L))
      have e3 := ssz d1 (i0 + t) d1[a + (o - L)]!
      rw [h2] at e3
      have x3 := sget (d1.setIfInBounds (i0 + t) d1[a + (o - L)]!) (i := a + (o - L)) (by simp; omega)
      simp only [enc_TItem] at e1 e2
      rw [← Sort.xorNext_toNat] at c2 v1
      generalize hk : i0 + t = k at *
      generalize hj : a + (o - L) = j at *
      have zz1 := u1
      have zz2 := u5
      have zz3 := v1
      have zz4 := v2
      have zz5 := v3
      have zz6 := v5
      have zz7 := x1
      have zz8 := x2
      have zz9 := x3
      have zz10 := e1
      have zz11 := e2
      have zz12 := e3
      have zz13 := hl1
      repeat' first
        | refine Z13 ?_
        | refine Zx ?_
        | refine Zfc c2 ?_
        | (refine Ze ?_; clear hK K)
        | refine W_reg fun K hK => ?_
        | refine W_drwR rfl mixed (by decide +kernel) fun K hK => ?_
        | refine W_drw mixed (by decide +kernel) fun K hK => ?_
        | (refine Zb ?_ ?_ <;> intro hb <;> first | (simp (disch := omega) only [go_sem, zz1, zz2, zz3, zz4, zz5, zz6, zz7, zz8, zz9, zz10, zz11, zz12, zz13] at hb; done) | (simp (disch := omega) only [go_sem, zz1, zz2, zz3, zz4, zz5, zz6, zz7, zz8, zz9, zz10, zz11, zz12, zz13] at hb; try omega) | try omega)
        | (refine Zl ?_; intro bn hnil; (try simp (disch := omega) only [go_sem, zz1, zz2, zz3, zz4, zz5, zz6, zz7, zz8, zz9, zz10, zz11, zz12, zz13] at hnil); dsimp only [putT, List.set_cons_succ, List.set_cons_zero])
      all_goals exact L_next ⟨(t + 1, Sort.xorNext r, Sort.swp d1 k j), by simp only []; omega, ⟨by simp only []; omega, by rw [Sort.size_swp]; exact h2, h3⟩, by simp only [← w1]; exact (by exact weak_mk wkD wkH wkN wkM (by omega))⟩
    · have st := bp_step a L M i0 t o r d1 ht (by rw [ho, if_neg hoL])
      rw [st] at h3
      have v5 : (a : Int) + ((o : Nat) : Int) = ((a + o : Nat) : Int) := by omega
      have x1 := sget d1 (i := i0 + t) (by omega)
      have x2 := sget d1 (i := a + o) (by omega)
      have e1 := sset d1 (i0 + t) d1[a + o]!
      have e2 := ssw d1 (i0 + t) (a + o)
      have e3 := ssz d1 (i0 + t) d1[a + o]!
      rw [h2] at e3
      have x3 := sget (d1.setIfInBounds (i0 + t) d1[a + o]!) (i := a + o) (by simp; omega)
      simp only [enc_TItem] at e1 e2
      rw [← Sort.xorNext_toNat] at c2 v1
      generalize hk : i0 + t = k at *
      generalize hj : a + o = j at *
      have zz1 := u1
      have zz2 := u5
      have zz3 := v1
      have zz4 := v2
      have zz5 := v3
      have zz6 := v5
      have zz7 := x1
      have zz8 := x2
      have zz9 := x3
      have zz10 := e1
      have zz11 := e2
      have zz12 := e3
      have zz13 := hl1
      repeat' first
        | refine Z13 ?_
        | refine Zx ?_
        | refine Zfc c2 ?_
        | (refine Ze ?_; clear hK K)
        | refine W_reg fun K hK => ?_
        | refine W_drwR rfl mixed (by decide +kernel) fun K hK => ?_
        | refine W_drw mixed (by decide +kernel) fun K hK => ?_
        | (refine Zb ?_ ?_ <;> intro hb <;> first | (simp (disch := omega) only [go_sem, zz1, zz2, zz3, zz4, zz5, zz6, zz7, zz8, zz9, zz10, zz11, zz12, zz13] at hb; done) | (simp (disch := omega) only [go_sem, zz1, zz2, zz3, zz4, zz5, zz6, zz7, zz8, zz9, zz10, zz11, zz12, zz13] at hb; try omega) | try omega)
        | (refine Zl ?_; intro bn hnil; (try simp (disch := omega) only [go_sem, zz1, zz2, zz3, zz4, zz5, zz6, zz7, zz8, zz9, zz10, zz11, zz12, zz13] at hnil); dsimp only [putT, List.set_cons_succ, List.set_cons_zero])
      all_goals exact L_next ⟨(t + 1, Sort.xorNext r, Sort.swp d1 k j), by simp only []; omega, ⟨by simp only []; omega, by rw [Sort.size_swp]; exact h2, h3⟩, by simp only [← w1]; exact (by exact weak_mk wkD wkH wkN wkM (by omega))⟩
  · have h0 : t = 3 := by omega
    subst h0
    have h3 : d1 = R := h3
    subst h3
    have zz1 := u1
    have zz2 := u5
    repeat' first
      | refine Z2 ?_
      | refine Zx ?_
      | (refine Ze ?_; clear hK K)
      | refine W_reg fun K hK => ?_
      | refine W_drwR rfl mixed (by decide +kernel) fun K hK => ?_
      | refine W_drw mixed (by decide +kernel) fun K hK => ?_
      | (refine Zb ?_ ?_ <;> intro hb <;> first | (simp (disch := omega) only [go_sem, zz1, zz2] at hb; done) | (simp (disch := omega) only [go_sem, zz1, zz2] at hb; try omega) | try omega)
      | (refine Zl ?_; intro bn hnil; (try simp (disch := omega) only [go_sem, zz1, zz2] at hnil); dsimp only [putT, List.set_cons_succ, List.set_cons_zero])
    all_goals exact Zrf

end Go.Proofs.Ytfbmbjfcgoahfaa
