/-
  What the types of this seat's program are, as AM's table has them; the structs as Lean structures. Written by gentab2.py; the kernel checks each row.
-/
import Derived.Test.YtdgjelfeclgolaaProg
import Derived.Test.YtdgjelfeclgolaaTab
import Derived.KernelRfl
namespace Go.Proofs.Ytdgjelfeclgolaa
open Go Go.AM
set_option linter.unusedVariables false
set_option linter.unusedSimpArgs false
theorem ty49 : tab Try.prog 49 = some ⟨.slice 62, 1, 24, .sl [] (some 0)⟩ := by kernel_rfl
theorem ty50 : tab Try.prog 50 = some ⟨.slice 56, 1, 24, .sl [] (some 0)⟩ := by kernel_rfl
theorem ty51 : tab Try.prog 51 = some ⟨.slice 3, 1, 24, .sl [] (some 0)⟩ := by kernel_rfl
theorem ty54 : tab Try.prog 54 = some ⟨.slice 26, 1, 24, .sl [] (some 0)⟩ := by kernel_rfl
theorem ty55 : tab Try.prog 55 = some ⟨.struct [⟨0, 1, false, 22, false⟩, ⟨1, 1, false, 3, false⟩, ⟨2, 1, false, 3, false⟩, ⟨3, 1, false, 3, false⟩, ⟨4, 1, false, 54, false⟩], 5, 56, .agg [.int .u64 0, .int .i64 0, .int .i64 0, .int .i64 0, .sl [] (some 0)]⟩ := by kernel_rfl
theorem eg55 : Try.prog.eqGuardType Try.prog.depth 55 = false := by kernel_rfl
theorem si55 : Try.prog.stoodInHeld 55 = false := by kernel_rfl
theorem ty56 : tab Try.prog 56 = some ⟨.struct [⟨0, 1, false, 22, false⟩, ⟨1, 1, false, 3, false⟩, ⟨2, 1, false, 3, false⟩, ⟨3, 1, false, 3, false⟩, ⟨4, 1, false, 54, false⟩], 5, 56, .agg [.int .u64 0, .int .i64 0, .int .i64 0, .int .i64 0, .sl [] (some 0)]⟩ := by kernel_rfl
theorem eg56 : Try.prog.eqGuardType Try.prog.depth 56 = false := by kernel_rfl
theorem si56 : Try.prog.stoodInHeld 56 = false := by kernel_rfl
theorem ty61 : tab Try.prog 61 = some ⟨.struct [⟨0, 1, false, 4, false⟩, ⟨1, 1, false, 3, false⟩, ⟨2, 1, false, 3, false⟩], 3, 24, .agg [.bool false, .int .i64 0, .int .i64 0]⟩ := by kernel_rfl
theorem eg61 : Try.prog.eqGuardType Try.prog.depth 61 = false := by kernel_rfl
theorem si61 : Try.prog.stoodInHeld 61 = false := by kernel_rfl
theorem ty62 : tab Try.prog 62 = some ⟨.struct [⟨0, 1, false, 4, false⟩, ⟨1, 1, false, 3, false⟩, ⟨2, 1, false, 3, false⟩], 3, 24, .agg [.bool false, .int .i64 0, .int .i64 0]⟩ := by kernel_rfl
theorem eg62 : Try.prog.eqGuardType Try.prog.depth 62 = false := by kernel_rfl
theorem si62 : Try.prog.stoodInHeld 62 = false := by kernel_rfl
theorem ty74 : tab Try.prog 74 = some ⟨.slice 79, 1, 24, .sl [] (some 0)⟩ := by kernel_rfl
theorem ty78 : tab Try.prog 78 = some ⟨.struct [⟨0, 1, false, 3, false⟩, ⟨1, 1, false, 51, false⟩, ⟨2, 5, true, 29, false⟩, ⟨7, 1, false, 3, false⟩], 8, 80, .agg [.int .i64 0, .sl [] (some 0), .int .i64 0, .int .i64 0, .int .i64 0, .int .i64 0, .int .i64 0, .int .i64 0]⟩ := by kernel_rfl
theorem eg78 : Try.prog.eqGuardType Try.prog.depth 78 = false := by kernel_rfl
theorem si78 : Try.prog.stoodInHeld 78 = false := by kernel_rfl
theorem ty79 : tab Try.prog 79 = some ⟨.struct [⟨0, 1, false, 3, false⟩, ⟨1, 1, false, 51, false⟩, ⟨2, 5, true, 29, false⟩, ⟨7, 1, false, 3, false⟩], 8, 80, .agg [.int .i64 0, .sl [] (some 0), .int .i64 0, .int .i64 0, .int .i64 0, .int .i64 0, .int .i64 0, .int .i64 0]⟩ := by kernel_rfl
theorem eg79 : Try.prog.eqGuardType Try.prog.depth 79 = false := by kernel_rfl
theorem si79 : Try.prog.stoodInHeld 79 = false := by kernel_rfl
theorem ty90 : tab Try.prog 90 = some ⟨.struct [⟨0, 1, false, 9, false⟩, ⟨1, 1, false, 3, false⟩, ⟨2, 1, false, 3, false⟩, ⟨3, 1, false, 3, false⟩, ⟨4, 1, false, 3, false⟩, ⟨5, 1, false, 3, false⟩, ⟨6, 1, false, 3, false⟩, ⟨7, 1, false, 3, false⟩, ⟨8, 1, false, 3, false⟩, ⟨9, 1, false, 3, false⟩], 10, 88, .agg [.str ⟨#[]⟩, .int .i64 0, .int .i64 0, .int .i64 0, .int .i64 0, .int .i64 0, .int .i64 0, .int .i64 0, .int .i64 0, .int .i64 0]⟩ := by kernel_rfl
theorem eg90 : Try.prog.eqGuardType Try.prog.depth 90 = false := by kernel_rfl
theorem si90 : Try.prog.stoodInHeld 90 = false := by kernel_rfl
theorem ty91 : tab Try.prog 91 = some ⟨.struct [⟨0, 1, false, 9, false⟩, ⟨1, 1, false, 3, false⟩, ⟨2, 1, false, 3, false⟩, ⟨3, 1, false, 3, false⟩, ⟨4, 1, false, 3, false⟩, ⟨5, 1, false, 3, false⟩, ⟨6, 1, false, 3, false⟩, ⟨7, 1, false, 3, false⟩, ⟨8, 1, false, 3, false⟩, ⟨9, 1, false, 3, false⟩], 10, 88, .agg [.str ⟨#[]⟩, .int .i64 0, .int .i64 0, .int .i64 0, .int .i64 0, .int .i64 0, .int .i64 0, .int .i64 0, .int .i64 0, .int .i64 0]⟩ := by kernel_rfl
theorem eg91 : Try.prog.eqGuardType Try.prog.depth 91 = false := by kernel_rfl
theorem si91 : Try.prog.stoodInHeld 91 = false := by kernel_rfl
theorem ty92 : tab Try.prog 92 = some ⟨.slice 104, 1, 24, .sl [] (some 0)⟩ := by kernel_rfl
theorem ty93 : tab Try.prog 93 = some ⟨.struct [⟨0, 1, false, 3, false⟩, ⟨1, 1, false, 3, false⟩, ⟨2, 1, false, 3, false⟩], 3, 24, .agg [.int .i64 0, .int .i64 0, .int .i64 0]⟩ := by kernel_rfl
theorem eg93 : Try.prog.eqGuardType Try.prog.depth 93 = false := by kernel_rfl
theorem si93 : Try.prog.stoodInHeld 93 = false := by kernel_rfl
theorem ty94 : tab Try.prog 94 = some ⟨.struct [⟨0, 1, false, 3, false⟩, ⟨1, 1, false, 3, false⟩, ⟨2, 1, false, 3, false⟩], 3, 24, .agg [.int .i64 0, .int .i64 0, .int .i64 0]⟩ := by kernel_rfl
theorem eg94 : Try.prog.eqGuardType Try.prog.depth 94 = false := by kernel_rfl
theorem si94 : Try.prog.stoodInHeld 94 = false := by kernel_rfl
theorem ty95 : tab Try.prog 95 = some ⟨.struct [⟨0, 1, false, 3, false⟩, ⟨1, 1, false, 3, false⟩], 2, 16, .agg [.int .i64 0, .int .i64 0]⟩ := by kernel_rfl
theorem eg95 : Try.prog.eqGuardType Try.prog.depth 95 = false := by kernel_rfl
theorem si95 : Try.prog.stoodInHeld 95 = false := by kernel_rfl
theorem ty96 : tab Try.prog 96 = some ⟨.struct [⟨0, 1, false, 3, false⟩, ⟨1, 1, false, 3, false⟩], 2, 16, .agg [.int .i64 0, .int .i64 0]⟩ := by kernel_rfl
theorem eg96 : Try.prog.eqGuardType Try.prog.depth 96 = false := by kernel_rfl
theorem si96 : Try.prog.stoodInHeld 96 = false := by kernel_rfl
theorem ty97 : tab Try.prog 97 = some ⟨.struct [⟨0, 10, true, 91, false⟩, ⟨10, 1, false, 4, false⟩, ⟨11, 1, false, 3, false⟩, ⟨12, 3, true, 94, false⟩, ⟨15, 2, true, 96, false⟩, ⟨17, 5, true, 56, false⟩, ⟨22, 1, false, 23, false⟩], 23, 224, .agg [.str ⟨#[]⟩, .int .i64 0, .int .i64 0, .int .i64 0, .int .i64 0, .int .i64 0, .int .i64 0, .int .i64 0, .int .i64 0, .int .i64 0, .bool false, .int .i64 0, .int .i64 0, .int .i64 0, .int .i64 0, .int .i64 0, .int .i64 0, .int .u64 0, .int .i64 0, .int .i64 0, .int .i64 0, .sl [] (some 0), .sl [] (some 0)]⟩ := by kernel_rfl
theorem eg97 : Try.prog.eqGuardType Try.prog.depth 97 = false := by kernel_rfl
theorem si97 : Try.prog.stoodInHeld 97 = false := by kernel_rfl
theorem ty98 : tab Try.prog 98 = some ⟨.struct [⟨0, 10, true, 91, false⟩, ⟨10, 1, false, 4, false⟩, ⟨11, 1, false, 3, false⟩, ⟨12, 3, true, 94, false⟩, ⟨15, 2, true, 96, false⟩, ⟨17, 5, true, 56, false⟩, ⟨22, 1, false, 23, false⟩], 23, 224, .agg [.str ⟨#[]⟩, .int .i64 0, .int .i64 0, .int .i64 0, .int .i64 0, .int .i64 0, .int .i64 0, .int .i64 0, .int .i64 0, .int .i64 0, .bool false, .int .i64 0, .int .i64 0, .int .i64 0, .int .i64 0, .int .i64 0, .int .i64 0, .int .u64 0, .int .i64 0, .int .i64 0, .int .i64 0, .sl [] (some 0), .sl [] (some 0)]⟩ := by kernel_rfl
theorem eg98 : Try.prog.eqGuardType Try.prog.depth 98 = false := by kernel_rfl
theorem si98 : Try.prog.stoodInHeld 98 = false := by kernel_rfl
theorem ty103 : tab Try.prog 103 = some ⟨.struct [⟨0, 1, false, 3, false⟩, ⟨1, 5, true, 29, false⟩, ⟨6, 1, false, 51, false⟩, ⟨7, 1, false, 3, false⟩, ⟨8, 10, true, 91, false⟩, ⟨18, 1, false, 4, false⟩], 19, 176, .agg [.int .i64 0, .int .i64 0, .int .i64 0, .int .i64 0, .int .i64 0, .int .i64 0, .sl [] (some 0), .int .i64 0, .str ⟨#[]⟩, .int .i64 0, .int .i64 0, .int .i64 0, .int .i64 0, .int .i64 0, .int .i64 0, .int .i64 0, .int .i64 0, .int .i64 0, .bool false]⟩ := by kernel_rfl
theorem eg103 : Try.prog.eqGuardType Try.prog.depth 103 = false := by kernel_rfl
theorem si103 : Try.prog.stoodInHeld 103 = false := by kernel_rfl
theorem ty104 : tab Try.prog 104 = some ⟨.struct [⟨0, 1, false, 3, false⟩, ⟨1, 5, true, 29, false⟩, ⟨6, 1, false, 51, false⟩, ⟨7, 1, false, 3, false⟩, ⟨8, 10, true, 91, false⟩, ⟨18, 1, false, 4, false⟩], 19, 176, .agg [.int .i64 0, .int .i64 0, .int .i64 0, .int .i64 0, .int .i64 0, .int .i64 0, .sl [] (some 0), .int .i64 0, .str ⟨#[]⟩, .int .i64 0, .int .i64 0, .int .i64 0, .int .i64 0, .int .i64 0, .int .i64 0, .int .i64 0, .int .i64 0, .int .i64 0, .bool false]⟩ := by kernel_rfl
theorem eg104 : Try.prog.eqGuardType Try.prog.depth 104 = false := by kernel_rfl
theorem si104 : Try.prog.stoodInHeld 104 = false := by kernel_rfl
structure TTurn where
  take : Bool
  lane : Int
  width : Int
  deriving DecidableEq
instance : Enc TTurn := ⟨fun x => [.bool x.take, .int .i64 x.lane, .int .i64 x.width], 3, fun _ => rfl, fun x y h => by
  simp only [List.mem_cons, List.not_mem_nil, or_false] at h
  rcases h with rfl | rfl | rfl
  · exact .bool _
  · exact .int _ _
  · exact .int _ _⟩
theorem enc_TTurn (x : TTurn) : Enc.enc x = [.bool x.take, .int .i64 x.lane, .int .i64 x.width] := rfl
theorem size_TTurn : Enc.size TTurn = 3 := rfl
def TTurn.wf (x : TTurn) : Prop := True ∧ (-9223372036854775808 ≤ x.lane ∧ x.lane ≤ 9223372036854775807) ∧ (-9223372036854775808 ≤ x.width ∧ x.width ≤ 9223372036854775807)
theorem rd_TTurn : RdC Try.prog 62 (fun ys => ∃ x : TTurn, ys = Enc.enc x ∧ x.wf) := by
  refine RdC.mono (rd_struct Try.underlying62 (show RdS Try.prog [4, 3, 3] _ from (rd_cons (rd_boolT Try.underlying4) (rd_cons (rd_i64 Try.underlying3) (rd_cons (rd_i64 Try.underlying3) rd_nil))))) ?_
  rintro ys ⟨_, _, rfl, ⟨x0, rfl, h0⟩, ⟨_, _, rfl, ⟨x1, rfl, h1⟩, ⟨_, _, rfl, ⟨x2, rfl, h2⟩, rfl⟩⟩⟩
  exact ⟨⟨x0, x1, x2⟩, rfl, h0, h1, h2⟩
structure TFair where
  r : Int
  guess : Int
  length : Int
  open_ : Int
  lanes : List TLane
  deriving DecidableEq
instance : Enc TFair := ⟨fun x => [.int .u64 x.r, .int .i64 x.guess, .int .i64 x.length, .int .i64 x.open_, .sl (rws x.lanes) none], 5, fun _ => rfl, fun x y h => by
  simp only [List.mem_cons, List.not_mem_nil, or_false] at h
  rcases h with rfl | rfl | rfl | rfl | rfl
  · exact .int _ _
  · exact .int _ _
  · exact .int _ _
  · exact .int _ _
  · exact rws_fz _ _⟩
theorem enc_TFair (x : TFair) : Enc.enc x = [.int .u64 x.r, .int .i64 x.guess, .int .i64 x.length, .int .i64 x.open_, .sl (rws x.lanes) none] := rfl
theorem size_TFair : Enc.size TFair = 5 := rfl
def TFair.wf (x : TFair) : Prop := (0 ≤ x.r ∧ x.r ≤ 18446744073709551615) ∧ (-9223372036854775808 ≤ x.guess ∧ x.guess ≤ 9223372036854775807) ∧ (-9223372036854775808 ≤ x.length ∧ x.length ≤ 9223372036854775807) ∧ (-9223372036854775808 ≤ x.open_ ∧ x.open_ ≤ 9223372036854775807) ∧ (x.lanes.length ≤ maxLen ∧ ∀ a, a ∈ x.lanes → a.wf)
theorem rd_TFair : RdC Try.prog 56 (fun ys => ∃ x : TFair, ys = Enc.enc x ∧ x.wf) := by
  refine RdC.mono (rd_struct Try.underlying56 (show RdS Try.prog [22, 3, 3, 3, 54] _ from (rd_cons (rd_u64 Try.underlying22) (rd_cons (rd_i64 Try.underlying3) (rd_cons (rd_i64 Try.underlying3) (rd_cons (rd_i64 Try.underlying3) (rd_cons (rd_slice (α := TLane) Try.underlying54 (by kernel_rfl) rd_TLane) rd_nil))))))) ?_
  rintro ys ⟨_, _, rfl, ⟨x0, rfl, h0⟩, ⟨_, _, rfl, ⟨x1, rfl, h1⟩, ⟨_, _, rfl, ⟨x2, rfl, h2⟩, ⟨_, _, rfl, ⟨x3, rfl, h3⟩, ⟨_, _, rfl, ⟨x4, rfl, h4⟩, rfl⟩⟩⟩⟩⟩
  exact ⟨⟨x0, x1, x2, x3, x4⟩, rfl, h0, h1, h2, h3, h4⟩
structure TOp22 where
  do_ : Int
  hand : List Int
  t : TTicket
  open_ : Int
  deriving DecidableEq
instance : Enc TOp22 := ⟨fun x => [.int .i64 x.do_, .sl (rws x.hand) none, .int .i64 x.t.iD, .int .i64 x.t.width, .int .i64 x.t.seats, .int .i64 x.t.since, .int .i64 x.t.until_, .int .i64 x.open_], 8, fun _ => rfl, fun x y h => by
  simp only [List.mem_cons, List.not_mem_nil, or_false] at h
  rcases h with rfl | rfl | rfl | rfl | rfl | rfl | rfl | rfl
  · exact .int _ _
  · exact rws_fz _ _
  · exact .int _ _
  · exact .int _ _
  · exact .int _ _
  · exact .int _ _
  · exact .int _ _
  · exact .int _ _⟩
theorem enc_TOp22 (x : TOp22) : Enc.enc x = [.int .i64 x.do_, .sl (rws x.hand) none, .int .i64 x.t.iD, .int .i64 x.t.width, .int .i64 x.t.seats, .int .i64 x.t.since, .int .i64 x.t.until_, .int .i64 x.open_] := rfl
theorem size_TOp22 : Enc.size TOp22 = 8 := rfl
def TOp22.wf (x : TOp22) : Prop := (-9223372036854775808 ≤ x.do_ ∧ x.do_ ≤ 9223372036854775807) ∧ (x.hand.length ≤ maxLen ∧ ∀ a, a ∈ x.hand → (-9223372036854775808 ≤ a ∧ a ≤ 9223372036854775807)) ∧ x.t.wf ∧ (-9223372036854775808 ≤ x.open_ ∧ x.open_ ≤ 9223372036854775807)
theorem rd_TOp22 : RdC Try.prog 79 (fun ys => ∃ x : TOp22, ys = Enc.enc x ∧ x.wf) := by
  refine RdC.mono (rd_struct Try.underlying79 (show RdS Try.prog [3, 51, 29, 3] _ from (rd_cons (rd_i64 Try.underlying3) (rd_cons (rd_slice (α := Int) Try.underlying51 (by kernel_rfl) (rd_i64 Try.underlying3)) (rd_cons rd_TTicket (rd_cons (rd_i64 Try.underlying3) rd_nil)))))) ?_
  rintro ys ⟨_, _, rfl, ⟨x0, rfl, h0⟩, ⟨_, _, rfl, ⟨x1, rfl, h1⟩, ⟨_, _, rfl, ⟨x2, rfl, h2⟩, ⟨_, _, rfl, ⟨x3, rfl, h3⟩, rfl⟩⟩⟩⟩
  exact ⟨⟨x0, x1, x2, x3⟩, rfl, h0, h1, h2, h3⟩
structure TLevel where
  name : ByteArray
  kind : Int
  shares : Int
  lend : Int
  borrow : Int
  queues : Int
  hand : Int
  length : Int
  wait : Int
  guess : Int
  deriving DecidableEq
instance : Enc TLevel := ⟨fun x => [.str x.name, .int .i64 x.kind, .int .i64 x.shares, .int .i64 x.lend, .int .i64 x.borrow, .int .i64 x.queues, .int .i64 x.hand, .int .i64 x.length, .int .i64 x.wait, .int .i64 x.guess], 10, fun _ => rfl, fun x y h => by
  simp only [List.mem_cons, List.not_mem_nil, or_false] at h
  rcases h with rfl | rfl | rfl | rfl | rfl | rfl | rfl | rfl | rfl | rfl
  · exact .str _
  · exact .int _ _
  · exact .int _ _
  · exact .int _ _
  · exact .int _ _
  · exact .int _ _
  · exact .int _ _
  · exact .int _ _
  · exact .int _ _
  · exact .int _ _⟩
theorem enc_TLevel (x : TLevel) : Enc.enc x = [.str x.name, .int .i64 x.kind, .int .i64 x.shares, .int .i64 x.lend, .int .i64 x.borrow, .int .i64 x.queues, .int .i64 x.hand, .int .i64 x.length, .int .i64 x.wait, .int .i64 x.guess] := rfl
theorem size_TLevel : Enc.size TLevel = 10 := rfl
def TLevel.wf (x : TLevel) : Prop := x.name.size ≤ maxLen ∧ (-9223372036854775808 ≤ x.kind ∧ x.kind ≤ 9223372036854775807) ∧ (-9223372036854775808 ≤ x.shares ∧ x.shares ≤ 9223372036854775807) ∧ (-9223372036854775808 ≤ x.lend ∧ x.lend ≤ 9223372036854775807) ∧ (-9223372036854775808 ≤ x.borrow ∧ x.borrow ≤ 9223372036854775807) ∧ (-9223372036854775808 ≤ x.queues ∧ x.queues ≤ 9223372036854775807) ∧ (-9223372036854775808 ≤ x.hand ∧ x.hand ≤ 9223372036854775807) ∧ (-9223372036854775808 ≤ x.length ∧ x.length ≤ 9223372036854775807) ∧ (-9223372036854775808 ≤ x.wait ∧ x.wait ≤ 9223372036854775807) ∧ (-9223372036854775808 ≤ x.guess ∧ x.guess ≤ 9223372036854775807)
theorem rd_TLevel : RdC Try.prog 91 (fun ys => ∃ x : TLevel, ys = Enc.enc x ∧ x.wf) := by
  refine RdC.mono (rd_struct Try.underlying91 (show RdS Try.prog [9, 3, 3, 3, 3, 3, 3, 3, 3, 3] _ from (rd_cons (rd_str Try.underlying9) (rd_cons (rd_i64 Try.underlying3) (rd_cons (rd_i64 Try.underlying3) (rd_cons (rd_i64 Try.underlying3) (rd_cons (rd_i64 Try.underlying3) (rd_cons (rd_i64 Try.underlying3) (rd_cons (rd_i64 Try.underlying3) (rd_cons (rd_i64 Try.underlying3) (rd_cons (rd_i64 Try.underlying3) (rd_cons (rd_i64 Try.underlying3) rd_nil)))))))))))) ?_
  rintro ys ⟨_, _, rfl, ⟨x0, rfl, h0⟩, ⟨_, _, rfl, ⟨x1, rfl, h1⟩, ⟨_, _, rfl, ⟨x2, rfl, h2⟩, ⟨_, _, rfl, ⟨x3, rfl, h3⟩, ⟨_, _, rfl, ⟨x4, rfl, h4⟩, ⟨_, _, rfl, ⟨x5, rfl, h5⟩, ⟨_, _, rfl, ⟨x6, rfl, h6⟩, ⟨_, _, rfl, ⟨x7, rfl, h7⟩, ⟨_, _, rfl, ⟨x8, rfl, h8⟩, ⟨_, _, rfl, ⟨x9, rfl, h9⟩, rfl⟩⟩⟩⟩⟩⟩⟩⟩⟩⟩
  exact ⟨⟨x0, x1, x2, x3, x4, x5, x6, x7, x8, x9⟩, rfl, h0, h1, h2, h3, h4, h5, h6, h7, h8, h9⟩
structure TBound where
  nominal : Int
  min : Int
  max : Int
  deriving DecidableEq
instance : Enc TBound := ⟨fun x => [.int .i64 x.nominal, .int .i64 x.min, .int .i64 x.max], 3, fun _ => rfl, fun x y h => by
  simp only [List.mem_cons, List.not_mem_nil, or_false] at h
  rcases h with rfl | rfl | rfl
  · exact .int _ _
  · exact .int _ _
  · exact .int _ _⟩
theorem enc_TBound (x : TBound) : Enc.enc x = [.int .i64 x.nominal, .int .i64 x.min, .int .i64 x.max] := rfl
theorem size_TBound : Enc.size TBound = 3 := rfl
def TBound.wf (x : TBound) : Prop := (-9223372036854775808 ≤ x.nominal ∧ x.nominal ≤ 9223372036854775807) ∧ (-9223372036854775808 ≤ x.min ∧ x.min ≤ 9223372036854775807) ∧ (-9223372036854775808 ≤ x.max ∧ x.max ≤ 9223372036854775807)
theorem rd_TBound : RdC Try.prog 94 (fun ys => ∃ x : TBound, ys = Enc.enc x ∧ x.wf) := by
  refine RdC.mono (rd_struct Try.underlying94 (show RdS Try.prog [3, 3, 3] _ from (rd_cons (rd_i64 Try.underlying3) (rd_cons (rd_i64 Try.underlying3) (rd_cons (rd_i64 Try.underlying3) rd_nil))))) ?_
  rintro ys ⟨_, _, rfl, ⟨x0, rfl, h0⟩, ⟨_, _, rfl, ⟨x1, rfl, h1⟩, ⟨_, _, rfl, ⟨x2, rfl, h2⟩, rfl⟩⟩⟩
  exact ⟨⟨x0, x1, x2⟩, rfl, h0, h1, h2⟩
structure TDemand where
  high : Int
  smooth : Int
  deriving DecidableEq
instance : Enc TDemand := ⟨fun x => [.int .i64 x.high, .int .i64 x.smooth], 2, fun _ => rfl, fun x y h => by
  simp only [List.mem_cons, List.not_mem_nil, or_false] at h
  rcases h with rfl | rfl
  · exact .int _ _
  · exact .int _ _⟩
theorem enc_TDemand (x : TDemand) : Enc.enc x = [.int .i64 x.high, .int .i64 x.smooth] := rfl
theorem size_TDemand : Enc.size TDemand = 2 := rfl
def TDemand.wf (x : TDemand) : Prop := (-9223372036854775808 ≤ x.high ∧ x.high ≤ 9223372036854775807) ∧ (-9223372036854775808 ≤ x.smooth ∧ x.smooth ≤ 9223372036854775807)
theorem rd_TDemand : RdC Try.prog 96 (fun ys => ∃ x : TDemand, ys = Enc.enc x ∧ x.wf) := by
  refine RdC.mono (rd_struct Try.underlying96 (show RdS Try.prog [3, 3] _ from (rd_cons (rd_i64 Try.underlying3) (rd_cons (rd_i64 Try.underlying3) rd_nil)))) ?_
  rintro ys ⟨_, _, rfl, ⟨x0, rfl, h0⟩, ⟨_, _, rfl, ⟨x1, rfl, h1⟩, rfl⟩⟩
  exact ⟨⟨x0, x1⟩, rfl, h0, h1⟩
structure TState where
  level : TLevel
  quiet : Bool
  limit : Int
  bound : TBound
  demand : TDemand
  fair : TFair
  running : List TTicket
  deriving DecidableEq
instance : Enc TState := ⟨fun x => [.str x.level.name, .int .i64 x.level.kind, .int .i64 x.level.shares, .int .i64 x.level.lend, .int .i64 x.level.borrow, .int .i64 x.level.queues, .int .i64 x.level.hand, .int .i64 x.level.length, .int .i64 x.level.wait, .int .i64 x.level.guess, .bool x.quiet, .int .i64 x.limit, .int .i64 x.bound.nominal, .int .i64 x.bound.min, .int .i64 x.bound.max, .int .i64 x.demand.high, .int .i64 x.demand.smooth, .int .u64 x.fair.r, .int .i64 x.fair.guess, .int .i64 x.fair.length, .int .i64 x.fair.open_, .sl (rws x.fair.lanes) none, .sl (rws x.running) none], 23, fun _ => rfl, fun x y h => by
  simp only [List.mem_cons, List.not_mem_nil, or_false] at h
  rcases h with rfl | rfl | rfl | rfl | rfl | rfl | rfl | rfl | rfl | rfl | rfl | rfl | rfl | rfl | rfl | rfl | rfl | rfl | rfl | rfl | rfl | rfl | rfl
  · exact .str _
  · exact .int _ _
  · exact .int _ _
  · exact .int _ _
  · exact .int _ _
  · exact .int _ _
  · exact .int _ _
  · exact .int _ _
  · exact .int _ _
  · exact .int _ _
  · exact .bool _
  · exact .int _ _
  · exact .int _ _
  · exact .int _ _
  · exact .int _ _
  · exact .int _ _
  · exact .int _ _
  · exact .int _ _
  · exact .int _ _
  · exact .int _ _
  · exact .int _ _
  · exact rws_fz _ _
  · exact rws_fz _ _⟩
theorem enc_TState (x : TState) : Enc.enc x = [.str x.level.name, .int .i64 x.level.kind, .int .i64 x.level.shares, .int .i64 x.level.lend, .int .i64 x.level.borrow, .int .i64 x.level.queues, .int .i64 x.level.hand, .int .i64 x.level.length, .int .i64 x.level.wait, .int .i64 x.level.guess, .bool x.quiet, .int .i64 x.limit, .int .i64 x.bound.nominal, .int .i64 x.bound.min, .int .i64 x.bound.max, .int .i64 x.demand.high, .int .i64 x.demand.smooth, .int .u64 x.fair.r, .int .i64 x.fair.guess, .int .i64 x.fair.length, .int .i64 x.fair.open_, .sl (rws x.fair.lanes) none, .sl (rws x.running) none] := rfl
theorem size_TState : Enc.size TState = 23 := rfl
def TState.wf (x : TState) : Prop := x.level.wf ∧ True ∧ (-9223372036854775808 ≤ x.limit ∧ x.limit ≤ 9223372036854775807) ∧ x.bound.wf ∧ x.demand.wf ∧ x.fair.wf ∧ (x.running.length ≤ maxLen ∧ ∀ a, a ∈ x.running → a.wf)
theorem rd_TState : RdC Try.prog 98 (fun ys => ∃ x : TState, ys = Enc.enc x ∧ x.wf) := by
  refine RdC.mono (rd_struct Try.underlying98 (show RdS Try.prog [91, 4, 3, 94, 96, 56, 23] _ from (rd_cons rd_TLevel (rd_cons (rd_boolT Try.underlying4) (rd_cons (rd_i64 Try.underlying3) (rd_cons rd_TBound (rd_cons rd_TDemand (rd_cons rd_TFair (rd_cons (rd_slice (α := TTicket) Try.underlying23 (by kernel_rfl) rd_TTicket) rd_nil))))))))) ?_
  rintro ys ⟨_, _, rfl, ⟨x0, rfl, h0⟩, ⟨_, _, rfl, ⟨x1, rfl, h1⟩, ⟨_, _, rfl, ⟨x2, rfl, h2⟩, ⟨_, _, rfl, ⟨x3, rfl, h3⟩, ⟨_, _, rfl, ⟨x4, rfl, h4⟩, ⟨_, _, rfl, ⟨x5, rfl, h5⟩, ⟨_, _, rfl, ⟨x6, rfl, h6⟩, rfl⟩⟩⟩⟩⟩⟩⟩
  exact ⟨⟨x0, x1, x2, x3, x4, x5, x6⟩, rfl, h0, h1, h2, h3, h4, h5, h6⟩
structure TOp23 where
  do_ : Int
  t : TTicket
  hand : List Int
  n : Int
  level : TLevel
  quiet : Bool
  deriving DecidableEq
instance : Enc TOp23 := ⟨fun x => [.int .i64 x.do_, .int .i64 x.t.iD, .int .i64 x.t.width, .int .i64 x.t.seats, .int .i64 x.t.since, .int .i64 x.t.until_, .sl (rws x.hand) none, .int .i64 x.n, .str x.level.name, .int .i64 x.level.kind, .int .i64 x.level.shares, .int .i64 x.level.lend, .int .i64 x.level.borrow, .int .i64 x.level.queues, .int .i64 x.level.hand, .int .i64 x.level.length, .int .i64 x.level.wait, .int .i64 x.level.guess, .bool x.quiet], 19, fun _ => rfl, fun x y h => by
  simp only [List.mem_cons, List.not_mem_nil, or_false] at h
  rcases h with rfl | rfl | rfl | rfl | rfl | rfl | rfl | rfl | rfl | rfl | rfl | rfl | rfl | rfl | rfl | rfl | rfl | rfl | rfl
  · exact .int _ _
  · exact .int _ _
  · exact .int _ _
  · exact .int _ _
  · exact .int _ _
  · exact .int _ _
  · exact rws_fz _ _
  · exact .int _ _
  · exact .str _
  · exact .int _ _
  · exact .int _ _
  · exact .int _ _
  · exact .int _ _
  · exact .int _ _
  · exact .int _ _
  · exact .int _ _
  · exact .int _ _
  · exact .int _ _
  · exact .bool _⟩
theorem enc_TOp23 (x : TOp23) : Enc.enc x = [.int .i64 x.do_, .int .i64 x.t.iD, .int .i64 x.t.width, .int .i64 x.t.seats, .int .i64 x.t.since, .int .i64 x.t.until_, .sl (rws x.hand) none, .int .i64 x.n, .str x.level.name, .int .i64 x.level.kind, .int .i64 x.level.shares, .int .i64 x.level.lend, .int .i64 x.level.borrow, .int .i64 x.level.queues, .int .i64 x.level.hand, .int .i64 x.level.length, .int .i64 x.level.wait, .int .i64 x.level.guess, .bool x.quiet] := rfl
theorem size_TOp23 : Enc.size TOp23 = 19 := rfl
def TOp23.wf (x : TOp23) : Prop := (-9223372036854775808 ≤ x.do_ ∧ x.do_ ≤ 9223372036854775807) ∧ x.t.wf ∧ (x.hand.length ≤ maxLen ∧ ∀ a, a ∈ x.hand → (-9223372036854775808 ≤ a ∧ a ≤ 9223372036854775807)) ∧ (-9223372036854775808 ≤ x.n ∧ x.n ≤ 9223372036854775807) ∧ x.level.wf ∧ True
theorem rd_TOp23 : RdC Try.prog 104 (fun ys => ∃ x : TOp23, ys = Enc.enc x ∧ x.wf) := by
  refine RdC.mono (rd_struct Try.underlying104 (show RdS Try.prog [3, 29, 51, 3, 91, 4] _ from (rd_cons (rd_i64 Try.underlying3) (rd_cons rd_TTicket (rd_cons (rd_slice (α := Int) Try.underlying51 (by kernel_rfl) (rd_i64 Try.underlying3)) (rd_cons (rd_i64 Try.underlying3) (rd_cons rd_TLevel (rd_cons (rd_boolT Try.underlying4) rd_nil)))))))) ?_
  rintro ys ⟨_, _, rfl, ⟨x0, rfl, h0⟩, ⟨_, _, rfl, ⟨x1, rfl, h1⟩, ⟨_, _, rfl, ⟨x2, rfl, h2⟩, ⟨_, _, rfl, ⟨x3, rfl, h3⟩, ⟨_, _, rfl, ⟨x4, rfl, h4⟩, ⟨_, _, rfl, ⟨x5, rfl, h5⟩, rfl⟩⟩⟩⟩⟩⟩
  exact ⟨⟨x0, x1, x2, x3, x4, x5⟩, rfl, h0, h1, h2, h3, h4, h5⟩
theorem aeq61_TTurn (x y : TTurn) : aequal Try.prog 61 (.agg [.bool x.take, .int .i64 x.lane, .int .i64 x.width]) (.agg [.bool y.take, .int .i64 y.lane, .int .i64 y.width]) = some (decide (x = y)) := by
  rw [aequal_struct ty61 eg61 si61 fun d => (aeqs_bool ty4 rfl rfl (aeqs_int ty3 rfl rfl (aeqs_int ty3 rfl rfl aeqs_nil)))]
  congr 1
  cases x
  cases y
  simp only [TTurn.mk.injEq, Bool.decide_and, Bool.and_true]
theorem aeq62_TTurn (x y : TTurn) : aequal Try.prog 62 (.agg [.bool x.take, .int .i64 x.lane, .int .i64 x.width]) (.agg [.bool y.take, .int .i64 y.lane, .int .i64 y.width]) = some (decide (x = y)) := by
  rw [aequal_struct ty62 eg62 si62 fun d => (aeqs_bool ty4 rfl rfl (aeqs_int ty3 rfl rfl (aeqs_int ty3 rfl rfl aeqs_nil)))]
  congr 1
  cases x
  cases y
  simp only [TTurn.mk.injEq, Bool.decide_and, Bool.and_true]
theorem aeq90_TLevel (x y : TLevel) : aequal Try.prog 90 (.agg [.str x.name, .int .i64 x.kind, .int .i64 x.shares, .int .i64 x.lend, .int .i64 x.borrow, .int .i64 x.queues, .int .i64 x.hand, .int .i64 x.length, .int .i64 x.wait, .int .i64 x.guess]) (.agg [.str y.name, .int .i64 y.kind, .int .i64 y.shares, .int .i64 y.lend, .int .i64 y.borrow, .int .i64 y.queues, .int .i64 y.hand, .int .i64 y.length, .int .i64 y.wait, .int .i64 y.guess]) = some (decide (x = y)) := by
  rw [aequal_struct ty90 eg90 si90 fun d => (aeqs_str ty9 rfl rfl (aeqs_int ty3 rfl rfl (aeqs_int ty3 rfl rfl (aeqs_int ty3 rfl rfl (aeqs_int ty3 rfl rfl (aeqs_int ty3 rfl rfl (aeqs_int ty3 rfl rfl (aeqs_int ty3 rfl rfl (aeqs_int ty3 rfl rfl (aeqs_int ty3 rfl rfl aeqs_nil))))))))))]
  congr 1
  cases x
  cases y
  simp only [TLevel.mk.injEq, Bool.decide_and, Bool.and_true]
theorem aeq91_TLevel (x y : TLevel) : aequal Try.prog 91 (.agg [.str x.name, .int .i64 x.kind, .int .i64 x.shares, .int .i64 x.lend, .int .i64 x.borrow, .int .i64 x.queues, .int .i64 x.hand, .int .i64 x.length, .int .i64 x.wait, .int .i64 x.guess]) (.agg [.str y.name, .int .i64 y.kind, .int .i64 y.shares, .int .i64 y.lend, .int .i64 y.borrow, .int .i64 y.queues, .int .i64 y.hand, .int .i64 y.length, .int .i64 y.wait, .int .i64 y.guess]) = some (decide (x = y)) := by
  rw [aequal_struct ty91 eg91 si91 fun d => (aeqs_str ty9 rfl rfl (aeqs_int ty3 rfl rfl (aeqs_int ty3 rfl rfl (aeqs_int ty3 rfl rfl (aeqs_int ty3 rfl rfl (aeqs_int ty3 rfl rfl (aeqs_int ty3 rfl rfl (aeqs_int ty3 rfl rfl (aeqs_int ty3 rfl rfl (aeqs_int ty3 rfl rfl aeqs_nil))))))))))]
  congr 1
  cases x
  cases y
  simp only [TLevel.mk.injEq, Bool.decide_and, Bool.and_true]
theorem aeq93_TBound (x y : TBound) : aequal Try.prog 93 (.agg [.int .i64 x.nominal, .int .i64 x.min, .int .i64 x.max]) (.agg [.int .i64 y.nominal, .int .i64 y.min, .int .i64 y.max]) = some (decide (x = y)) := by
  rw [aequal_struct ty93 eg93 si93 fun d => (aeqs_int ty3 rfl rfl (aeqs_int ty3 rfl rfl (aeqs_int ty3 rfl rfl aeqs_nil)))]
  congr 1
  cases x
  cases y
  simp only [TBound.mk.injEq, Bool.decide_and, Bool.and_true]
theorem aeq94_TBound (x y : TBound) : aequal Try.prog 94 (.agg [.int .i64 x.nominal, .int .i64 x.min, .int .i64 x.max]) (.agg [.int .i64 y.nominal, .int .i64 y.min, .int .i64 y.max]) = some (decide (x = y)) := by
  rw [aequal_struct ty94 eg94 si94 fun d => (aeqs_int ty3 rfl rfl (aeqs_int ty3 rfl rfl (aeqs_int ty3 rfl rfl aeqs_nil)))]
  congr 1
  cases x
  cases y
  simp only [TBound.mk.injEq, Bool.decide_and, Bool.and_true]
theorem aeq95_TDemand (x y : TDemand) : aequal Try.prog 95 (.agg [.int .i64 x.high, .int .i64 x.smooth]) (.agg [.int .i64 y.high, .int .i64 y.smooth]) = some (decide (x = y)) := by
  rw [aequal_struct ty95 eg95 si95 fun d => (aeqs_int ty3 rfl rfl (aeqs_int ty3 rfl rfl aeqs_nil))]
  congr 1
  cases x
  cases y
  simp only [TDemand.mk.injEq, Bool.decide_and, Bool.and_true]
theorem aeq96_TDemand (x y : TDemand) : aequal Try.prog 96 (.agg [.int .i64 x.high, .int .i64 x.smooth]) (.agg [.int .i64 y.high, .int .i64 y.smooth]) = some (decide (x = y)) := by
  rw [aequal_struct ty96 eg96 si96 fun d => (aeqs_int ty3 rfl rfl (aeqs_int ty3 rfl rfl aeqs_nil))]
  congr 1
  cases x
  cases y
  simp only [TDemand.mk.injEq, Bool.decide_and, Bool.and_true]
attribute [go_sem] ty49 ty50 ty51 ty54 ty55 eg55 si55 ty56 eg56 si56 ty61 eg61 si61 ty62 eg62 si62 ty74 ty78 eg78 si78 ty79 eg79 si79 ty90 eg90 si90 ty91 eg91 si91 ty92 ty93 eg93 si93 ty94 eg94 si94 ty95 eg95 si95 ty96 eg96 si96 ty97 eg97 si97 ty98 eg98 si98 ty103 eg103 si103 ty104 eg104 si104 enc_TTurn size_TTurn enc_TFair size_TFair enc_TOp22 size_TOp22 enc_TLevel size_TLevel enc_TBound size_TBound enc_TDemand size_TDemand enc_TState size_TState enc_TOp23 size_TOp23
attribute [go_sem ↓] aeq61_TTurn aeq62_TTurn aeq90_TLevel aeq91_TLevel aeq93_TBound aeq94_TBound aeq95_TDemand aeq96_TDemand
end Go.Proofs.Ytdgjelfeclgolaa
