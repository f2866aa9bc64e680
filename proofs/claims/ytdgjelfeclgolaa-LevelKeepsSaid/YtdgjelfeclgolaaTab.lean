/-
  What the types of this seat's program are, as AM's table has them; the structs as Lean structures. Written by gentab2.py; the kernel checks each row.
-/
import Derived.Test.YtdgjelfeclgolaaProg
import Derived.Test.YtdgjelfeclgolaaAME
import Derived.KernelRfl
namespace Go.Proofs.Ytdgjelfeclgolaa
open Go Go.AM
set_option linter.unusedVariables false
set_option linter.unusedSimpArgs false
theorem ty2 : tab Try.prog 2 = some ⟨.int .i64, 1, 8, .int .i64 0⟩ := by kernel_rfl
theorem ty3 : tab Try.prog 3 = some ⟨.int .i64, 1, 8, .int .i64 0⟩ := by kernel_rfl
theorem ty4 : tab Try.prog 4 = some ⟨.bool, 1, 1, .bool false⟩ := by kernel_rfl
theorem ty5 : tab Try.prog 5 = some ⟨.int .u8, 1, 1, .int .u8 0⟩ := by kernel_rfl
theorem ty6 : tab Try.prog 6 = some ⟨.int .u8, 1, 1, .int .u8 0⟩ := by kernel_rfl
theorem ty9 : tab Try.prog 9 = some ⟨.str, 1, 16, .str ⟨#[]⟩⟩ := by kernel_rfl
theorem ty10 : tab Try.prog 10 = some ⟨.str, 1, 16, .str ⟨#[]⟩⟩ := by kernel_rfl
theorem ty11 : tab Try.prog 11 = some ⟨.str, 1, 16, .str ⟨#[]⟩⟩ := by kernel_rfl
theorem ty12 : tab Try.prog 12 = some ⟨.int .u64, 1, 8, .int .u64 0⟩ := by kernel_rfl
theorem ty22 : tab Try.prog 22 = some ⟨.int .u64, 1, 8, .int .u64 0⟩ := by kernel_rfl
theorem ty23 : tab Try.prog 23 = some ⟨.slice 29, 1, 24, .sl [] (some 0)⟩ := by kernel_rfl
theorem ty25 : tab Try.prog 25 = some ⟨.struct [⟨0, 1, false, 22, false⟩, ⟨1, 1, false, 23, false⟩], 2, 32, .agg [.int .u64 0, .sl [] (some 0)]⟩ := by kernel_rfl
theorem eg25 : Try.prog.eqGuardType Try.prog.depth 25 = false := by kernel_rfl
theorem si25 : Try.prog.stoodInHeld 25 = false := by kernel_rfl
theorem ty26 : tab Try.prog 26 = some ⟨.struct [⟨0, 1, false, 22, false⟩, ⟨1, 1, false, 23, false⟩], 2, 32, .agg [.int .u64 0, .sl [] (some 0)]⟩ := by kernel_rfl
theorem eg26 : Try.prog.eqGuardType Try.prog.depth 26 = false := by kernel_rfl
theorem si26 : Try.prog.stoodInHeld 26 = false := by kernel_rfl
theorem ty28 : tab Try.prog 28 = some ⟨.struct [⟨0, 1, false, 3, false⟩, ⟨1, 1, false, 3, false⟩, ⟨2, 1, false, 3, false⟩, ⟨3, 1, false, 3, false⟩, ⟨4, 1, false, 3, false⟩], 5, 40, .agg [.int .i64 0, .int .i64 0, .int .i64 0, .int .i64 0, .int .i64 0]⟩ := by kernel_rfl
theorem eg28 : Try.prog.eqGuardType Try.prog.depth 28 = false := by kernel_rfl
theorem si28 : Try.prog.stoodInHeld 28 = false := by kernel_rfl
theorem ty29 : tab Try.prog 29 = some ⟨.struct [⟨0, 1, false, 3, false⟩, ⟨1, 1, false, 3, false⟩, ⟨2, 1, false, 3, false⟩, ⟨3, 1, false, 3, false⟩, ⟨4, 1, false, 3, false⟩], 5, 40, .agg [.int .i64 0, .int .i64 0, .int .i64 0, .int .i64 0, .int .i64 0]⟩ := by kernel_rfl
theorem eg29 : Try.prog.eqGuardType Try.prog.depth 29 = false := by kernel_rfl
theorem si29 : Try.prog.stoodInHeld 29 = false := by kernel_rfl
theorem ty44 : tab Try.prog 44 = some ⟨.slice 46, 1, 24, .sl [] (some 0)⟩ := by kernel_rfl
theorem ty45 : tab Try.prog 45 = some ⟨.struct [⟨0, 1, false, 3, false⟩, ⟨1, 1, false, 22, false⟩, ⟨2, 5, true, 29, false⟩, ⟨7, 1, false, 3, false⟩], 8, 64, .agg [.int .i64 0, .int .u64 0, .int .i64 0, .int .i64 0, .int .i64 0, .int .i64 0, .int .i64 0, .int .i64 0]⟩ := by kernel_rfl
theorem eg45 : Try.prog.eqGuardType Try.prog.depth 45 = false := by kernel_rfl
theorem si45 : Try.prog.stoodInHeld 45 = false := by kernel_rfl
theorem ty46 : tab Try.prog 46 = some ⟨.struct [⟨0, 1, false, 3, false⟩, ⟨1, 1, false, 22, false⟩, ⟨2, 5, true, 29, false⟩, ⟨7, 1, false, 3, false⟩], 8, 64, .agg [.int .i64 0, .int .u64 0, .int .i64 0, .int .i64 0, .int .i64 0, .int .i64 0, .int .i64 0, .int .i64 0]⟩ := by kernel_rfl
theorem eg46 : Try.prog.eqGuardType Try.prog.depth 46 = false := by kernel_rfl
theorem si46 : Try.prog.stoodInHeld 46 = false := by kernel_rfl
theorem ty47 : tab Try.prog 47 = some ⟨.int .u64, 1, 8, .int .u64 0⟩ := by kernel_rfl
theorem ty57 : tab Try.prog 57 = some ⟨.int .i64, 1, 8, .int .i64 0⟩ := by kernel_rfl
theorem ty152 : tab Try.prog 152 = some ⟨.int .u8, 1, 1, .int .u8 0⟩ := by kernel_rfl
theorem ty153 : tab Try.prog 153 = some ⟨.int .u8, 1, 1, .int .u8 0⟩ := by kernel_rfl
theorem mixed : Try.prog.follows .mixedOrders = true := by kernel_rfl
structure TTicket where
  iD : Int
  width : Int
  seats : Int
  since : Int
  until_ : Int
  deriving DecidableEq
instance : Enc TTicket := ⟨fun x => [.int .i64 x.iD, .int .i64 x.width, .int .i64 x.seats, .int .i64 x.since, .int .i64 x.until_], 5, fun _ => rfl, fun x y h => by
  simp only [List.mem_cons, List.not_mem_nil, or_false] at h
  rcases h with rfl | rfl | rfl | rfl | rfl
  · exact .int _ _
  · exact .int _ _
  · exact .int _ _
  · exact .int _ _
  · exact .int _ _⟩
theorem enc_TTicket (x : TTicket) : Enc.enc x = [.int .i64 x.iD, .int .i64 x.width, .int .i64 x.seats, .int .i64 x.since, .int .i64 x.until_] := rfl
theorem size_TTicket : Enc.size TTicket = 5 := rfl
def TTicket.wf (x : TTicket) : Prop := (-9223372036854775808 ≤ x.iD ∧ x.iD ≤ 9223372036854775807) ∧ (-9223372036854775808 ≤ x.width ∧ x.width ≤ 9223372036854775807) ∧ (-9223372036854775808 ≤ x.seats ∧ x.seats ≤ 9223372036854775807) ∧ (-9223372036854775808 ≤ x.since ∧ x.since ≤ 9223372036854775807) ∧ (-9223372036854775808 ≤ x.until_ ∧ x.until_ ≤ 9223372036854775807)
theorem rd_TTicket : RdC Try.prog 29 (fun ys => ∃ x : TTicket, ys = Enc.enc x ∧ x.wf) := by
  refine RdC.mono (rd_struct Try.underlying29 (show RdS Try.prog [3, 3, 3, 3, 3] _ from (rd_cons (rd_i64 Try.underlying3) (rd_cons (rd_i64 Try.underlying3) (rd_cons (rd_i64 Try.underlying3) (rd_cons (rd_i64 Try.underlying3) (rd_cons (rd_i64 Try.underlying3) rd_nil))))))) ?_
  rintro ys ⟨_, _, rfl, ⟨x0, rfl, h0⟩, ⟨_, _, rfl, ⟨x1, rfl, h1⟩, ⟨_, _, rfl, ⟨x2, rfl, h2⟩, ⟨_, _, rfl, ⟨x3, rfl, h3⟩, ⟨_, _, rfl, ⟨x4, rfl, h4⟩, rfl⟩⟩⟩⟩⟩
  exact ⟨⟨x0, x1, x2, x3, x4⟩, rfl, h0, h1, h2, h3, h4⟩
structure TLane where
  start : Int
  wait : List TTicket
  deriving DecidableEq
instance : Enc TLane := ⟨fun x => [.int .u64 x.start, .sl (rws x.wait) none], 2, fun _ => rfl, fun x y h => by
  simp only [List.mem_cons, List.not_mem_nil, or_false] at h
  rcases h with rfl | rfl
  · exact .int _ _
  · exact rws_fz _ _⟩
theorem enc_TLane (x : TLane) : Enc.enc x = [.int .u64 x.start, .sl (rws x.wait) none] := rfl
theorem size_TLane : Enc.size TLane = 2 := rfl
def TLane.wf (x : TLane) : Prop := (0 ≤ x.start ∧ x.start ≤ 18446744073709551615) ∧ (x.wait.length ≤ maxLen ∧ ∀ a, a ∈ x.wait → a.wf)
theorem rd_TLane : RdC Try.prog 26 (fun ys => ∃ x : TLane, ys = Enc.enc x ∧ x.wf) := by
  refine RdC.mono (rd_struct Try.underlying26 (show RdS Try.prog [22, 23] _ from (rd_cons (rd_u64 Try.underlying22) (rd_cons (rd_slice (α := TTicket) Try.underlying23 (by kernel_rfl) rd_TTicket) rd_nil)))) ?_
  rintro ys ⟨_, _, rfl, ⟨x0, rfl, h0⟩, ⟨_, _, rfl, ⟨x1, rfl, h1⟩, rfl⟩⟩
  exact ⟨⟨x0, x1⟩, rfl, h0, h1⟩
structure TOp where
  do_ : Int
  r : Int
  t : TTicket
  n : Int
  deriving DecidableEq
instance : Enc TOp := ⟨fun x => [.int .i64 x.do_, .int .u64 x.r, .int .i64 x.t.iD, .int .i64 x.t.width, .int .i64 x.t.seats, .int .i64 x.t.since, .int .i64 x.t.until_, .int .i64 x.n], 8, fun _ => rfl, fun x y h => by
  simp only [List.mem_cons, List.not_mem_nil, or_false] at h
  rcases h with rfl | rfl | rfl | rfl | rfl | rfl | rfl | rfl
  · exact .int _ _
  · exact .int _ _
  · exact .int _ _
  · exact .int _ _
  · exact .int _ _
  · exact .int _ _
  · exact .int _ _
  · exact .int _ _⟩
theorem enc_TOp (x : TOp) : Enc.enc x = [.int .i64 x.do_, .int .u64 x.r, .int .i64 x.t.iD, .int .i64 x.t.width, .int .i64 x.t.seats, .int .i64 x.t.since, .int .i64 x.t.until_, .int .i64 x.n] := rfl
theorem size_TOp : Enc.size TOp = 8 := rfl
def TOp.wf (x : TOp) : Prop := (-9223372036854775808 ≤ x.do_ ∧ x.do_ ≤ 9223372036854775807) ∧ (0 ≤ x.r ∧ x.r ≤ 18446744073709551615) ∧ x.t.wf ∧ (-9223372036854775808 ≤ x.n ∧ x.n ≤ 9223372036854775807)
theorem rd_TOp : RdC Try.prog 46 (fun ys => ∃ x : TOp, ys = Enc.enc x ∧ x.wf) := by
  refine RdC.mono (rd_struct Try.underlying46 (show RdS Try.prog [3, 22, 29, 3] _ from (rd_cons (rd_i64 Try.underlying3) (rd_cons (rd_u64 Try.underlying22) (rd_cons rd_TTicket (rd_cons (rd_i64 Try.underlying3) rd_nil)))))) ?_
  rintro ys ⟨_, _, rfl, ⟨x0, rfl, h0⟩, ⟨_, _, rfl, ⟨x1, rfl, h1⟩, ⟨_, _, rfl, ⟨x2, rfl, h2⟩, ⟨_, _, rfl, ⟨x3, rfl, h3⟩, rfl⟩⟩⟩⟩
  exact ⟨⟨x0, x1, x2, x3⟩, rfl, h0, h1, h2, h3⟩
theorem aeq28_TTicket (x y : TTicket) : aequal Try.prog 28 (.agg [.int .i64 x.iD, .int .i64 x.width, .int .i64 x.seats, .int .i64 x.since, .int .i64 x.until_]) (.agg [.int .i64 y.iD, .int .i64 y.width, .int .i64 y.seats, .int .i64 y.since, .int .i64 y.until_]) = some (decide (x = y)) := by
  rw [aequal_struct ty28 eg28 si28 fun d => (aeqs_int ty3 rfl rfl (aeqs_int ty3 rfl rfl (aeqs_int ty3 rfl rfl (aeqs_int ty3 rfl rfl (aeqs_int ty3 rfl rfl aeqs_nil)))))]
  congr 1
  cases x
  cases y
  simp only [TTicket.mk.injEq, Bool.decide_and, Bool.and_true]
theorem aeq29_TTicket (x y : TTicket) : aequal Try.prog 29 (.agg [.int .i64 x.iD, .int .i64 x.width, .int .i64 x.seats, .int .i64 x.since, .int .i64 x.until_]) (.agg [.int .i64 y.iD, .int .i64 y.width, .int .i64 y.seats, .int .i64 y.since, .int .i64 y.until_]) = some (decide (x = y)) := by
  rw [aequal_struct ty29 eg29 si29 fun d => (aeqs_int ty3 rfl rfl (aeqs_int ty3 rfl rfl (aeqs_int ty3 rfl rfl (aeqs_int ty3 rfl rfl (aeqs_int ty3 rfl rfl aeqs_nil)))))]
  congr 1
  cases x
  cases y
  simp only [TTicket.mk.injEq, Bool.decide_and, Bool.and_true]
attribute [go_sem] ty2 ty3 ty4 ty5 ty6 ty9 ty10 ty11 ty12 ty22 ty23 ty25 eg25 si25 ty26 eg26 si26 ty28 eg28 si28 ty29 eg29 si29 ty44 ty45 eg45 si45 ty46 eg46 si46 ty47 ty57 ty152 ty153 enc_TTicket size_TTicket enc_TLane size_TLane enc_TOp size_TOp
attribute [go_sem ↓] aeq28_TTicket aeq29_TTicket
end Go.Proofs.Ytdgjelfeclgolaa
