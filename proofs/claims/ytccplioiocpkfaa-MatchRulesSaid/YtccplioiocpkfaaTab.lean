/-
  What the types of this seat's program are, as AM's table has them; the structs as Lean structures. Written by gentab2.py; the kernel checks each row.
-/
import Derived.Test.YtccplioiocpkfaaProg
import Derived.Test.YtccplioiocpkfaaAM42
import Derived.KernelRfl
namespace Go.Proofs.Ytccplioiocpkfaa
open Go Go.AM
set_option linter.unusedVariables false
set_option linter.unusedSimpArgs false
theorem ty2 : tab Try.prog 2 = some ⟨.int .i64, 1, 8, .int .i64 0⟩ := by kernel_rfl
theorem ty3 : tab Try.prog 3 = some ⟨.int .i64, 1, 8, .int .i64 0⟩ := by kernel_rfl
theorem ty4 : tab Try.prog 4 = some ⟨.bool, 1, 1, .bool false⟩ := by kernel_rfl
theorem ty5 : tab Try.prog 5 = some ⟨.int .u8, 1, 1, .int .u8 0⟩ := by kernel_rfl
theorem ty6 : tab Try.prog 6 = some ⟨.int .u8, 1, 1, .int .u8 0⟩ := by kernel_rfl
theorem ty9 : tab Try.prog 9 = some ⟨.str, 1, 16, .str ⟨#[]⟩⟩ := by kernel_rfl
theorem ty10 : tab Try.prog 10 = some ⟨.str, 1, 16, .str ⟨#[]⟩⟩ := by kernel_rfl
theorem ty11 : tab Try.prog 11 = some ⟨.str, 1, 16, .str ⟨#[]⟩⟩ := by kernel_rfl
theorem ty12 : tab Try.prog 12 = some ⟨.int .u64, 1, 8, .int .u64 0⟩ := by kernel_rfl
theorem ty22 : tab Try.prog 22 = some ⟨.slice 9, 1, 24, .sl [] (some 0)⟩ := by kernel_rfl
theorem ty23 : tab Try.prog 23 = some ⟨.struct [⟨0, 1, false, 22, false⟩, ⟨1, 1, false, 22, false⟩, ⟨2, 1, false, 22, false⟩, ⟨3, 1, false, 22, false⟩, ⟨4, 1, false, 22, false⟩], 5, 120, .agg [.sl [] (some 0), .sl [] (some 0), .sl [] (some 0), .sl [] (some 0), .sl [] (some 0)]⟩ := by kernel_rfl
theorem eg23 : Try.prog.eqGuardType Try.prog.depth 23 = false := by kernel_rfl
theorem si23 : Try.prog.stoodInHeld 23 = false := by kernel_rfl
theorem ty24 : tab Try.prog 24 = some ⟨.struct [⟨0, 1, false, 22, false⟩, ⟨1, 1, false, 22, false⟩, ⟨2, 1, false, 22, false⟩, ⟨3, 1, false, 22, false⟩, ⟨4, 1, false, 22, false⟩], 5, 120, .agg [.sl [] (some 0), .sl [] (some 0), .sl [] (some 0), .sl [] (some 0), .sl [] (some 0)]⟩ := by kernel_rfl
theorem eg24 : Try.prog.eqGuardType Try.prog.depth 24 = false := by kernel_rfl
theorem si24 : Try.prog.stoodInHeld 24 = false := by kernel_rfl
theorem ty25 : tab Try.prog 25 = some ⟨.struct [⟨0, 1, false, 9, false⟩, ⟨1, 1, false, 22, false⟩, ⟨2, 1, false, 9, false⟩, ⟨3, 1, false, 9, false⟩, ⟨4, 1, false, 9, false⟩, ⟨5, 1, false, 3, false⟩], 6, 96, .agg [.str ⟨#[]⟩, .sl [] (some 0), .str ⟨#[]⟩, .str ⟨#[]⟩, .str ⟨#[]⟩, .int .i64 0]⟩ := by kernel_rfl
theorem eg25 : Try.prog.eqGuardType Try.prog.depth 25 = false := by kernel_rfl
theorem si25 : Try.prog.stoodInHeld 25 = false := by kernel_rfl
theorem ty26 : tab Try.prog 26 = some ⟨.struct [⟨0, 1, false, 9, false⟩, ⟨1, 1, false, 22, false⟩, ⟨2, 1, false, 9, false⟩, ⟨3, 1, false, 9, false⟩, ⟨4, 1, false, 9, false⟩, ⟨5, 1, false, 3, false⟩], 6, 96, .agg [.str ⟨#[]⟩, .sl [] (some 0), .str ⟨#[]⟩, .str ⟨#[]⟩, .str ⟨#[]⟩, .int .i64 0]⟩ := by kernel_rfl
theorem eg26 : Try.prog.eqGuardType Try.prog.depth 26 = false := by kernel_rfl
theorem si26 : Try.prog.stoodInHeld 26 = false := by kernel_rfl
theorem ty27 : tab Try.prog 27 = some ⟨.array 5 9, 5, 80, .agg [.str ⟨#[]⟩, .str ⟨#[]⟩, .str ⟨#[]⟩, .str ⟨#[]⟩, .str ⟨#[]⟩]⟩ := by kernel_rfl
theorem eg27 : Try.prog.eqGuardType Try.prog.depth 27 = false := by kernel_rfl
theorem ty30 : tab Try.prog 30 = some ⟨.slice 24, 1, 24, .sl [] (some 0)⟩ := by kernel_rfl
theorem ty31 : tab Try.prog 31 = some ⟨.struct [⟨0, 1, false, 9, false⟩, ⟨1, 1, false, 9, false⟩, ⟨2, 1, false, 3, false⟩, ⟨3, 1, false, 3, false⟩, ⟨4, 1, false, 30, false⟩], 5, 72, .agg [.str ⟨#[]⟩, .str ⟨#[]⟩, .int .i64 0, .int .i64 0, .sl [] (some 0)]⟩ := by kernel_rfl
theorem eg31 : Try.prog.eqGuardType Try.prog.depth 31 = false := by kernel_rfl
theorem si31 : Try.prog.stoodInHeld 31 = false := by kernel_rfl
theorem ty32 : tab Try.prog 32 = some ⟨.struct [⟨0, 1, false, 9, false⟩, ⟨1, 1, false, 9, false⟩, ⟨2, 1, false, 3, false⟩, ⟨3, 1, false, 3, false⟩, ⟨4, 1, false, 30, false⟩], 5, 72, .agg [.str ⟨#[]⟩, .str ⟨#[]⟩, .int .i64 0, .int .i64 0, .sl [] (some 0)]⟩ := by kernel_rfl
theorem eg32 : Try.prog.eqGuardType Try.prog.depth 32 = false := by kernel_rfl
theorem si32 : Try.prog.stoodInHeld 32 = false := by kernel_rfl
theorem ty33 : tab Try.prog 33 = some ⟨.slice 32, 1, 24, .sl [] (some 0)⟩ := by kernel_rfl
theorem ty34 : tab Try.prog 34 = some ⟨.slice 48, 1, 24, .sl [] (some 0)⟩ := by kernel_rfl
theorem ty35 : tab Try.prog 35 = some ⟨.struct [⟨0, 1, false, 3, false⟩, ⟨1, 1, false, 3, false⟩, ⟨2, 1, false, 3, false⟩, ⟨3, 1, false, 3, false⟩, ⟨4, 1, false, 34, false⟩, ⟨5, 1, false, 33, false⟩], 6, 80, .agg [.int .i64 0, .int .i64 0, .int .i64 0, .int .i64 0, .sl [] (some 0), .sl [] (some 0)]⟩ := by kernel_rfl
theorem eg35 : Try.prog.eqGuardType Try.prog.depth 35 = false := by kernel_rfl
theorem si35 : Try.prog.stoodInHeld 35 = false := by kernel_rfl
theorem ty36 : tab Try.prog 36 = some ⟨.struct [⟨0, 1, false, 3, false⟩, ⟨1, 1, false, 3, false⟩, ⟨2, 1, false, 3, false⟩, ⟨3, 1, false, 3, false⟩, ⟨4, 1, false, 34, false⟩, ⟨5, 1, false, 33, false⟩], 6, 80, .agg [.int .i64 0, .int .i64 0, .int .i64 0, .int .i64 0, .sl [] (some 0), .sl [] (some 0)]⟩ := by kernel_rfl
theorem eg36 : Try.prog.eqGuardType Try.prog.depth 36 = false := by kernel_rfl
theorem si36 : Try.prog.stoodInHeld 36 = false := by kernel_rfl
theorem ty47 : tab Try.prog 47 = some ⟨.struct [⟨0, 1, false, 9, false⟩, ⟨1, 1, false, 3, false⟩, ⟨2, 1, false, 3, false⟩, ⟨3, 1, false, 3, false⟩, ⟨4, 1, false, 3, false⟩, ⟨5, 1, false, 3, false⟩, ⟨6, 1, false, 3, false⟩, ⟨7, 1, false, 3, false⟩, ⟨8, 1, false, 3, false⟩, ⟨9, 1, false, 3, false⟩], 10, 88, .agg [.str ⟨#[]⟩, .int .i64 0, .int .i64 0, .int .i64 0, .int .i64 0, .int .i64 0, .int .i64 0, .int .i64 0, .int .i64 0, .int .i64 0]⟩ := by kernel_rfl
theorem eg47 : Try.prog.eqGuardType Try.prog.depth 47 = false := by kernel_rfl
theorem si47 : Try.prog.stoodInHeld 47 = false := by kernel_rfl
theorem ty48 : tab Try.prog 48 = some ⟨.struct [⟨0, 1, false, 9, false⟩, ⟨1, 1, false, 3, false⟩, ⟨2, 1, false, 3, false⟩, ⟨3, 1, false, 3, false⟩, ⟨4, 1, false, 3, false⟩, ⟨5, 1, false, 3, false⟩, ⟨6, 1, false, 3, false⟩, ⟨7, 1, false, 3, false⟩, ⟨8, 1, false, 3, false⟩, ⟨9, 1, false, 3, false⟩], 10, 88, .agg [.str ⟨#[]⟩, .int .i64 0, .int .i64 0, .int .i64 0, .int .i64 0, .int .i64 0, .int .i64 0, .int .i64 0, .int .i64 0, .int .i64 0]⟩ := by kernel_rfl
theorem eg48 : Try.prog.eqGuardType Try.prog.depth 48 = false := by kernel_rfl
theorem si48 : Try.prog.stoodInHeld 48 = false := by kernel_rfl
theorem ty49 : tab Try.prog 49 = some ⟨.slice 22, 1, 24, .sl [] (some 0)⟩ := by kernel_rfl
theorem ty68 : tab Try.prog 68 = some ⟨.int .u8, 1, 1, .int .u8 0⟩ := by kernel_rfl
theorem ty69 : tab Try.prog 69 = some ⟨.int .u8, 1, 1, .int .u8 0⟩ := by kernel_rfl
theorem mixed : Try.prog.follows .mixedOrders = true := by kernel_rfl
structure TRule where
  users : List ByteArray
  groups : List ByteArray
  verbs : List ByteArray
  resources : List ByteArray
  spaces : List ByteArray
  deriving DecidableEq
instance : Enc TRule := ⟨fun x => [.sl (rws x.users) none, .sl (rws x.groups) none, .sl (rws x.verbs) none, .sl (rws x.resources) none, .sl (rws x.spaces) none], 5, fun _ => rfl, fun x y h => by
  simp only [List.mem_cons, List.not_mem_nil, or_false] at h
  rcases h with rfl | rfl | rfl | rfl | rfl
  · exact rws_fz _ _
  · exact rws_fz _ _
  · exact rws_fz _ _
  · exact rws_fz _ _
  · exact rws_fz _ _⟩
theorem enc_TRule (x : TRule) : Enc.enc x = [.sl (rws x.users) none, .sl (rws x.groups) none, .sl (rws x.verbs) none, .sl (rws x.resources) none, .sl (rws x.spaces) none] := rfl
theorem size_TRule : Enc.size TRule = 5 := rfl
def TRule.wf (x : TRule) : Prop := (x.users.length ≤ maxLen ∧ ∀ a, a ∈ x.users → a.size ≤ maxLen) ∧ (x.groups.length ≤ maxLen ∧ ∀ a, a ∈ x.groups → a.size ≤ maxLen) ∧ (x.verbs.length ≤ maxLen ∧ ∀ a, a ∈ x.verbs → a.size ≤ maxLen) ∧ (x.resources.length ≤ maxLen ∧ ∀ a, a ∈ x.resources → a.size ≤ maxLen) ∧ (x.spaces.length ≤ maxLen ∧ ∀ a, a ∈ x.spaces → a.size ≤ maxLen)
theorem rd_TRule : RdC Try.prog 24 (fun ys => ∃ x : TRule, ys = Enc.enc x ∧ x.wf) := by
  refine RdC.mono (rd_struct Try.underlying24 (show RdS Try.prog [22, 22, 22, 22, 22] _ from (rd_cons (rd_slice (α := ByteArray) Try.underlying22 (by kernel_rfl) (rd_str Try.underlying9)) (rd_cons (rd_slice (α := ByteArray) Try.underlying22 (by kernel_rfl) (rd_str Try.underlying9)) (rd_cons (rd_slice (α := ByteArray) Try.underlying22 (by kernel_rfl) (rd_str Try.underlying9)) (rd_cons (rd_slice (α := ByteArray) Try.underlying22 (by kernel_rfl) (rd_str Try.underlying9)) (rd_cons (rd_slice (α := ByteArray) Try.underlying22 (by kernel_rfl) (rd_str Try.underlying9)) rd_nil))))))) ?_
  rintro ys ⟨_, _, rfl, ⟨x0, rfl, h0⟩, ⟨_, _, rfl, ⟨x1, rfl, h1⟩, ⟨_, _, rfl, ⟨x2, rfl, h2⟩, ⟨_, _, rfl, ⟨x3, rfl, h3⟩, ⟨_, _, rfl, ⟨x4, rfl, h4⟩, rfl⟩⟩⟩⟩⟩
  exact ⟨⟨x0, x1, x2, x3, x4⟩, rfl, h0, h1, h2, h3, h4⟩
structure TRequest where
  user : ByteArray
  groups : List ByteArray
  verb : ByteArray
  resource : ByteArray
  space : ByteArray
  objects : Int
  deriving DecidableEq
instance : Enc TRequest := ⟨fun x => [.str x.user, .sl (rws x.groups) none, .str x.verb, .str x.resource, .str x.space, .int .i64 x.objects], 6, fun _ => rfl, fun x y h => by
  simp only [List.mem_cons, List.not_mem_nil, or_false] at h
  rcases h with rfl | rfl | rfl | rfl | rfl | rfl
  · exact .str _
  · exact rws_fz _ _
  · exact .str _
  · exact .str _
  · exact .str _
  · exact .int _ _⟩
theorem enc_TRequest (x : TRequest) : Enc.enc x = [.str x.user, .sl (rws x.groups) none, .str x.verb, .str x.resource, .str x.space, .int .i64 x.objects] := rfl
theorem size_TRequest : Enc.size TRequest = 6 := rfl
def TRequest.wf (x : TRequest) : Prop := x.user.size ≤ maxLen ∧ (x.groups.length ≤ maxLen ∧ ∀ a, a ∈ x.groups → a.size ≤ maxLen) ∧ x.verb.size ≤ maxLen ∧ x.resource.size ≤ maxLen ∧ x.space.size ≤ maxLen ∧ (-9223372036854775808 ≤ x.objects ∧ x.objects ≤ 9223372036854775807)
theorem rd_TRequest : RdC Try.prog 26 (fun ys => ∃ x : TRequest, ys = Enc.enc x ∧ x.wf) := by
  refine RdC.mono (rd_struct Try.underlying26 (show RdS Try.prog [9, 22, 9, 9, 9, 3] _ from (rd_cons (rd_str Try.underlying9) (rd_cons (rd_slice (α := ByteArray) Try.underlying22 (by kernel_rfl) (rd_str Try.underlying9)) (rd_cons (rd_str Try.underlying9) (rd_cons (rd_str Try.underlying9) (rd_cons (rd_str Try.underlying9) (rd_cons (rd_i64 Try.underlying3) rd_nil)))))))) ?_
  rintro ys ⟨_, _, rfl, ⟨x0, rfl, h0⟩, ⟨_, _, rfl, ⟨x1, rfl, h1⟩, ⟨_, _, rfl, ⟨x2, rfl, h2⟩, ⟨_, _, rfl, ⟨x3, rfl, h3⟩, ⟨_, _, rfl, ⟨x4, rfl, h4⟩, ⟨_, _, rfl, ⟨x5, rfl, h5⟩, rfl⟩⟩⟩⟩⟩⟩
  exact ⟨⟨x0, x1, x2, x3, x4, x5⟩, rfl, h0, h1, h2, h3, h4, h5⟩
structure TSchema where
  name : ByteArray
  level : ByteArray
  rank : Int
  by_ : Int
  rules : List TRule
  deriving DecidableEq
instance : Enc TSchema := ⟨fun x => [.str x.name, .str x.level, .int .i64 x.rank, .int .i64 x.by_, .sl (rws x.rules) none], 5, fun _ => rfl, fun x y h => by
  simp only [List.mem_cons, List.not_mem_nil, or_false] at h
  rcases h with rfl | rfl | rfl | rfl | rfl
  · exact .str _
  · exact .str _
  · exact .int _ _
  · exact .int _ _
  · exact rws_fz _ _⟩
theorem enc_TSchema (x : TSchema) : Enc.enc x = [.str x.name, .str x.level, .int .i64 x.rank, .int .i64 x.by_, .sl (rws x.rules) none] := rfl
theorem size_TSchema : Enc.size TSchema = 5 := rfl
def TSchema.wf (x : TSchema) : Prop := x.name.size ≤ maxLen ∧ x.level.size ≤ maxLen ∧ (-9223372036854775808 ≤ x.rank ∧ x.rank ≤ 9223372036854775807) ∧ (-9223372036854775808 ≤ x.by_ ∧ x.by_ ≤ 9223372036854775807) ∧ (x.rules.length ≤ maxLen ∧ ∀ a, a ∈ x.rules → a.wf)
theorem rd_TSchema : RdC Try.prog 32 (fun ys => ∃ x : TSchema, ys = Enc.enc x ∧ x.wf) := by
  refine RdC.mono (rd_struct Try.underlying32 (show RdS Try.prog [9, 9, 3, 3, 30] _ from (rd_cons (rd_str Try.underlying9) (rd_cons (rd_str Try.underlying9) (rd_cons (rd_i64 Try.underlying3) (rd_cons (rd_i64 Try.underlying3) (rd_cons (rd_slice (α := TRule) Try.underlying30 (by kernel_rfl) rd_TRule) rd_nil))))))) ?_
  rintro ys ⟨_, _, rfl, ⟨x0, rfl, h0⟩, ⟨_, _, rfl, ⟨x1, rfl, h1⟩, ⟨_, _, rfl, ⟨x2, rfl, h2⟩, ⟨_, _, rfl, ⟨x3, rfl, h3⟩, ⟨_, _, rfl, ⟨x4, rfl, h4⟩, rfl⟩⟩⟩⟩⟩
  exact ⟨⟨x0, x1, x2, x3, x4⟩, rfl, h0, h1, h2, h3, h4⟩
structure TLevel where
  name : ByteArray
  kind : Int
  shares : Int
  lend : Int
  borrow : Int
  queues : Int
  hand : Int
  length : Int
  wait : Int
  guess : Int
  deriving DecidableEq
instance : Enc TLevel := ⟨fun x => [.str x.name, .int .i64 x.kind, .int .i64 x.shares, .int .i64 x.lend, .int .i64 x.borrow, .int .i64 x.queues, .int .i64 x.hand, .int .i64 x.length, .int .i64 x.wait, .int .i64 x.guess], 10, fun _ => rfl, fun x y h => by
  simp only [List.mem_cons, List.not_mem_nil, or_false] at h
  rcases h with rfl | rfl | rfl | rfl | rfl | rfl | rfl | rfl | rfl | rfl
  · exact .str _
  · exact .int _ _
  · exact .int _ _
  · exact .int _ _
  · exact .int _ _
  · exact .int _ _
  · exact .int _ _
  · exact .int _ _
  · exact .int _ _
  · exact .int _ _⟩
theorem enc_TLevel (x : TLevel) : Enc.enc x = [.str x.name, .int .i64 x.kind, .int .i64 x.shares, .int .i64 x.lend, .int .i64 x.borrow, .int .i64 x.queues, .int .i64 x.hand, .int .i64 x.length, .int .i64 x.wait, .int .i64 x.guess] := rfl
theorem size_TLevel : Enc.size TLevel = 10 := rfl
def TLevel.wf (x : TLevel) : Prop := x.name.size ≤ maxLen ∧ (-9223372036854775808 ≤ x.kind ∧ x.kind ≤ 9223372036854775807) ∧ (-9223372036854775808 ≤ x.shares ∧ x.shares ≤ 9223372036854775807) ∧ (-9223372036854775808 ≤ x.lend ∧ x.lend ≤ 9223372036854775807) ∧ (-9223372036854775808 ≤ x.borrow ∧ x.borrow ≤ 9223372036854775807) ∧ (-9223372036854775808 ≤ x.queues ∧ x.queues ≤ 9223372036854775807) ∧ (-9223372036854775808 ≤ x.hand ∧ x.hand ≤ 9223372036854775807) ∧ (-9223372036854775808 ≤ x.length ∧ x.length ≤ 9223372036854775807) ∧ (-9223372036854775808 ≤ x.wait ∧ x.wait ≤ 9223372036854775807) ∧ (-9223372036854775808 ≤ x.guess ∧ x.guess ≤ 9223372036854775807)
theorem rd_TLevel : RdC Try.prog 48 (fun ys => ∃ x : TLevel, ys = Enc.enc x ∧ x.wf) := by
  refine RdC.mono (rd_struct Try.underlying48 (show RdS Try.prog [9, 3, 3, 3, 3, 3, 3, 3, 3, 3] _ from (rd_cons (rd_str Try.underlying9) (rd_cons (rd_i64 Try.underlying3) (rd_cons (rd_i64 Try.underlying3) (rd_cons (rd_i64 Try.underlying3) (rd_cons (rd_i64 Try.underlying3) (rd_cons (rd_i64 Try.underlying3) (rd_cons (rd_i64 Try.underlying3) (rd_cons (rd_i64 Try.underlying3) (rd_cons (rd_i64 Try.underlying3) (rd_cons (rd_i64 Try.underlying3) rd_nil)))))))))))) ?_
  rintro ys ⟨_, _, rfl, ⟨x0, rfl, h0⟩, ⟨_, _, rfl, ⟨x1, rfl, h1⟩, ⟨_, _, rfl, ⟨x2, rfl, h2⟩, ⟨_, _, rfl, ⟨x3, rfl, h3⟩, ⟨_, _, rfl, ⟨x4, rfl, h4⟩, ⟨_, _, rfl, ⟨x5, rfl, h5⟩, ⟨_, _, rfl, ⟨x6, rfl, h6⟩, ⟨_, _, rfl, ⟨x7, rfl, h7⟩, ⟨_, _, rfl, ⟨x8, rfl, h8⟩, ⟨_, _, rfl, ⟨x9, rfl, h9⟩, rfl⟩⟩⟩⟩⟩⟩⟩⟩⟩⟩
  exact ⟨⟨x0, x1, x2, x3, x4, x5, x6, x7, x8, x9⟩, rfl, h0, h1, h2, h3, h4, h5, h6, h7, h8, h9⟩
structure TConfig where
  total : Int
  period : Int
  perSeat : Int
  most : Int
  levels : List TLevel
  schemas : List TSchema
  deriving DecidableEq
instance : Enc TConfig := ⟨fun x => [.int .i64 x.total, .int .i64 x.period, .int .i64 x.perSeat, .int .i64 x.most, .sl (rws x.levels) none, .sl (rws x.schemas) none], 6, fun _ => rfl, fun x y h => by
  simp only [List.mem_cons, List.not_mem_nil, or_false] at h
  rcases h with rfl | rfl | rfl | rfl | rfl | rfl
  · exact .int _ _
  · exact .int _ _
  · exact .int _ _
  · exact .int _ _
  · exact rws_fz _ _
  · exact rws_fz _ _⟩
theorem enc_TConfig (x : TConfig) : Enc.enc x = [.int .i64 x.total, .int .i64 x.period, .int .i64 x.perSeat, .int .i64 x.most, .sl (rws x.levels) none, .sl (rws x.schemas) none] := rfl
theorem size_TConfig : Enc.size TConfig = 6 := rfl
def TConfig.wf (x : TConfig) : Prop := (-9223372036854775808 ≤ x.total ∧ x.total ≤ 9223372036854775807) ∧ (-9223372036854775808 ≤ x.period ∧ x.period ≤ 9223372036854775807) ∧ (-9223372036854775808 ≤ x.perSeat ∧ x.perSeat ≤ 9223372036854775807) ∧ (-9223372036854775808 ≤ x.most ∧ x.most ≤ 9223372036854775807) ∧ (x.levels.length ≤ maxLen ∧ ∀ a, a ∈ x.levels → a.wf) ∧ (x.schemas.length ≤ maxLen ∧ ∀ a, a ∈ x.schemas → a.wf)
theorem rd_TConfig : RdC Try.prog 36 (fun ys => ∃ x : TConfig, ys = Enc.enc x ∧ x.wf) := by
  refine RdC.mono (rd_struct Try.underlying36 (show RdS Try.prog [3, 3, 3, 3, 34, 33] _ from (rd_cons (rd_i64 Try.underlying3) (rd_cons (rd_i64 Try.underlying3) (rd_cons (rd_i64 Try.underlying3) (rd_cons (rd_i64 Try.underlying3) (rd_cons (rd_slice (α := TLevel) Try.underlying34 (by kernel_rfl) rd_TLevel) (rd_cons (rd_slice (α := TSchema) Try.underlying33 (by kernel_rfl) rd_TSchema) rd_nil)))))))) ?_
  rintro ys ⟨_, _, rfl, ⟨x0, rfl, h0⟩, ⟨_, _, rfl, ⟨x1, rfl, h1⟩, ⟨_, _, rfl, ⟨x2, rfl, h2⟩, ⟨_, _, rfl, ⟨x3, rfl, h3⟩, ⟨_, _, rfl, ⟨x4, rfl, h4⟩, ⟨_, _, rfl, ⟨x5, rfl, h5⟩, rfl⟩⟩⟩⟩⟩⟩
  exact ⟨⟨x0, x1, x2, x3, x4, x5⟩, rfl, h0, h1, h2, h3, h4, h5⟩
theorem aeq47_TLevel (x y : TLevel) : aequal Try.prog 47 (.agg [.str x.name, .int .i64 x.kind, .int .i64 x.shares, .int .i64 x.lend, .int .i64 x.borrow, .int .i64 x.queues, .int .i64 x.hand, .int .i64 x.length, .int .i64 x.wait, .int .i64 x.guess]) (.agg [.str y.name, .int .i64 y.kind, .int .i64 y.shares, .int .i64 y.lend, .int .i64 y.borrow, .int .i64 y.queues, .int .i64 y.hand, .int .i64 y.length, .int .i64 y.wait, .int .i64 y.guess]) = some (decide (x = y)) := by
  rw [aequal_struct ty47 eg47 si47 fun d => (aeqs_str ty9 rfl rfl (aeqs_int ty3 rfl rfl (aeqs_int ty3 rfl rfl (aeqs_int ty3 rfl rfl (aeqs_int ty3 rfl rfl (aeqs_int ty3 rfl rfl (aeqs_int ty3 rfl rfl (aeqs_int ty3 rfl rfl (aeqs_int ty3 rfl rfl (aeqs_int ty3 rfl rfl aeqs_nil))))))))))]
  congr 1
  cases x
  cases y
  simp only [TLevel.mk.injEq, Bool.decide_and, Bool.and_true]
theorem aeq48_TLevel (x y : TLevel) : aequal Try.prog 48 (.agg [.str x.name, .int .i64 x.kind, .int .i64 x.shares, .int .i64 x.lend, .int .i64 x.borrow, .int .i64 x.queues, .int .i64 x.hand, .int .i64 x.length, .int .i64 x.wait, .int .i64 x.guess]) (.agg [.str y.name, .int .i64 y.kind, .int .i64 y.shares, .int .i64 y.lend, .int .i64 y.borrow, .int .i64 y.queues, .int .i64 y.hand, .int .i64 y.length, .int .i64 y.wait, .int .i64 y.guess]) = some (decide (x = y)) := by
  rw [aequal_struct ty48 eg48 si48 fun d => (aeqs_str ty9 rfl rfl (aeqs_int ty3 rfl rfl (aeqs_int ty3 rfl rfl (aeqs_int ty3 rfl rfl (aeqs_int ty3 rfl rfl (aeqs_int ty3 rfl rfl (aeqs_int ty3 rfl rfl (aeqs_int ty3 rfl rfl (aeqs_int ty3 rfl rfl (aeqs_int ty3 rfl rfl aeqs_nil))))))))))]
  congr 1
  cases x
  cases y
  simp only [TLevel.mk.injEq, Bool.decide_and, Bool.and_true]
attribute [go_sem] ty2 ty3 ty4 ty5 ty6 ty9 ty10 ty11 ty12 ty22 ty23 eg23 si23 ty24 eg24 si24 ty25 eg25 si25 ty26 eg26 si26 ty27 eg27 ty30 ty31 eg31 si31 ty32 eg32 si32 ty33 ty34 ty35 eg35 si35 ty36 eg36 si36 ty47 eg47 si47 ty48 eg48 si48 ty49 ty68 ty69 enc_TRule size_TRule enc_TRequest size_TRequest enc_TSchema size_TSchema enc_TLevel size_TLevel enc_TConfig size_TConfig
attribute [go_sem ↓] aeq47_TLevel aeq48_TLevel
end Go.Proofs.Ytccplioiocpkfaa
