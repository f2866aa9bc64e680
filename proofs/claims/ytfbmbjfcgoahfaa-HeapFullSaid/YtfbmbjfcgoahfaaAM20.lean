/-
  AM, part 20: short forms of the rules.
-/
import Derived.Test.YtfbmbjfcgoahfaaAM19
import Derived.Test.YtfbmbjfcgoahfaaAM15
namespace Go.AM
open Go

section
variable {fl : Bool} {P : Program} {n0 : Nat} {all : Array Oper} {K : St → Prop}

theorem Frz.args {h : Heap} {S : Nat → Prop} (args : List AVal) (k : Nat) (x y : AVal) (hx : args[k]? = some x) (hy : args[k]? = some y) : Frz h S x y := by
  rw [hx] at hy
  injection hy with hy
  subst hy
  exact .refl x

/-- A call with arguments that hold no object of the caller's. -/
theorem AO_call0 {o : Oper} {rest : List Oper} {i : Nat} {s : St} {c : Call} {g : FuncId} {args : List AVal} {r : AVal} (hg : guardA all s.tmps o = some true) (ho : o.op = .call c) (ht : target s.tmps c = some (g, args))
    (hp : PCall P g args (· = r)) (h : AO P n0 all rest (i + 1) K ⟨putT s.tmps o.dst r, s.h, s.nx + 1⟩) : AO P n0 all (o :: rest) i K s :=
  AO_call hg ho ht hp rfl (fun _ _ h => h) (Frz.args args) fun r' hr => by subst hr; exact h

/-- Such a call of which only so much is known. -/
theorem AO_callQ {o : Oper} {rest : List Oper} {i : Nat} {s : St} {c : Call} {g : FuncId} {args : List AVal} {Q : AVal → Prop} (hg : guardA all s.tmps o = some true) (ho : o.op = .call c) (ht : target s.tmps c = some (g, args))
    (hp : PCall P g args Q) (h : ∀ r, Q r → AO P n0 all rest (i + 1) K ⟨putT s.tmps o.dst r, s.h, s.nx + 1⟩) : AO P n0 all (o :: rest) i K s :=
  AO_call hg ho ht hp rfl (fun _ _ h => h) (Frz.args args) h

theorem retQ_of {rs : List ResultVar} {Q : AVal → Prop} {s : St} {xs : List AVal} (h : resAs P s rs = some xs) (hf : Fz (packA xs)) (hq : Q (packA xs)) : retQ P rs Q .ret s := ⟨xs, _, h, .refl _, hf, hq⟩

theorem retQ_tmp {t : Tmp} {Q : AVal → Prop} {s : St} {x : AVal} (h : s.tmps.getD t .junk = x) (hf : Fz x) (hq : Q x) : retQ P [.tmp t] Q .ret s := by
  refine retQ_of (xs := [x]) ?_ hf hq
  simp only [resAs, resA, h]

theorem retQ_int {t : Tmp} {Q : AVal → Prop} {s : St} {k : IntKind} {n : Int} (h : s.tmps.getD t .junk = .int k n) (hq : Q (.int k n)) : retQ P [.tmp t] Q .ret s := retQ_tmp h (.int _ _) hq
theorem retQ_bool {t : Tmp} {Q : AVal → Prop} {s : St} {b : Bool} (h : s.tmps.getD t .junk = .bool b) (hq : Q (.bool b)) : retQ P [.tmp t] Q .ret s := retQ_tmp h (.bool _) hq
theorem retQ_int2 {t t' : Tmp} {Q : AVal → Prop} {s : St} {k k' : IntKind} {n n' : Int} (h : s.tmps.getD t .junk = .int k n) (h' : s.tmps.getD t' .junk = .int k' n') (hq : Q (.tuple [.int k n, .int k' n'])) : retQ P [.tmp t, .tmp t'] Q .ret s := by
  refine retQ_of (xs := [.int k n, .int k' n']) ?_ (.tuple _ fun x hx => ?_) hq
  · simp only [resAs, resA, h, h']
  · simp at hx
    rcases hx with rfl | rfl <;> exact .int _ _

end

/-- A call in a row whose order is drawn, with arguments that hold no object of the caller's. -/
theorem D_call0 {fl : Bool} {P : Program} {all : Array Oper} {nx : Nat} {K' : St → Prop} {i : Nat} {tm : List AVal} {h : Heap} {tc : List (Bool × List Nat)} {o : Oper} {rest : List Oper} {c : Call} {g : FuncId} {args : List AVal} {r : AVal}
    (hg : guardA all tm o = some true) (hop : o.op = .call c) (ht : target tm c = some (g, args)) (hc : PCall P g args (· = r))
    (hk : DW fl P all nx K' rest (i + 1) (putT tm o.dst r) h (tc ++ [(false, [])])) : DW fl P all nx K' (o :: rest) i tm h tc :=
  D_call c g args args r [] hg hop ht hc rfl (Frz.args args) (.inr rfl) hk

theorem Fz.int_iff (k : IntKind) (n : Int) : Fz (.int k n) ↔ True := ⟨fun _ => trivial, fun _ => .int k n⟩
theorem Fz.bool_iff (b : Bool) : Fz (.bool b) ↔ True := ⟨fun _ => trivial, fun _ => .bool b⟩

theorem bits_min (k : IntKind) (n : Nat) (h : n ≤ k.bits) : min n k.bits = n := Nat.min_eq_left h
theorem u64_min (n : Nat) (h : n ≤ 64) : min n IntKind.u64.bits = n := Nat.min_eq_left h
theorem i64_min (n : Nat) (h : n ≤ 64) : min n IntKind.i64.bits = n := Nat.min_eq_left h

theorem Fz.agg_iff (l : List AVal) : Fz (.agg l) ↔ ∀ x, x ∈ l → Fz x := ⟨fun h => by cases h with | agg _ h => exact h, fun h => .agg l h⟩
theorem Fz.str_iff (s : ByteArray) : Fz (.str s) ↔ True := ⟨fun _ => trivial, fun _ => .str s⟩

attribute [go_sem] drun touched touchOf isWriter resAs resA packA

end Go.AM
