/-
  AM, part 34: drawn rows that only read what was there: nothing has to be held against anything.
-/
import Derived.Test.YteajjckbjgmhaaaAM33
set_option linter.unusedVariables false
namespace Go.AM
open Go

/-- Neither writes nor makes an object. -/
def rdOp (o : Oper) : Bool :=
  match o.op with
  | .store .. => false
  | .alloc .. => false
  | .box .. => false
  | .buildSlice .. => false
  | .makeSlice .. => false
  | .call c => match c.callee with | .builtin .append => false | _ => true
  | _ => true

theorem allOld_append {n0 : Nat} : ∀ {tc : List (Bool × List Nat)} {l : List Nat}, allOld n0 tc → (∀ j, j ∈ l → j < n0) → allOld n0 (tc ++ [(false, l)])
  | [], _, _, hl => ⟨rfl, hl, trivial⟩
  | _ :: _, _, h, hl => ⟨h.1, h.2.1, allOld_append h.2.2 hl⟩

/-- What is left of a drawn row that only reads. -/
def DV (P : Program) (all : Array Oper) (nx : Nat) (K : St → Prop) (rest : List Oper) (i : Nat) (tm : List AVal) (h : Heap) : Prop := ∀ tc, allOld nx tc → DW P all nx K rest i tm h tc

theorem touched_nil {tm : List AVal} {o : Oper} {nx : Nat} (e : touched tm o = []) (j : Nat) (hj : j ∈ touched tm o) : j < nx := by rw [e] at hj; cases hj
theorem touched_one {tm : List AVal} {o : Oper} {nx id : Nat} (e : touched tm o = [id]) (h : id < nx) (j : Nat) (hj : j ∈ touched tm o) : j < nx := by
  rw [e] at hj
  simp at hj
  omega

section
variable {P : Program} {n0 : Nat} {all : Array Oper} {K : St → Prop}

theorem W_drwR {Q : Exit → St → Prop} {tm : List AVal} {hp : Heap} {nx : Nat} {k : List It} {id : Nat} {ops : List Oper} (hr : ops.all rdOp = true) (hm : P.follows .mixedOrders = true) (hc : chk ops.toArray (preds ops.toArray) = true)
    (h : ∀ K : St → Prop, (∀ s', unw P n0 k Q .normal s' → K s') → DV P ops.toArray nx K ops 0 tm hp) : AWP P n0 (.region id ops.toArray true) (unw P n0 k Q) ⟨tm, hp, nx⟩ :=
  W_drw hm hc fun K hK => h K hK [] trivial

theorem V_stepE {nx : Nat} {o : Oper} {rest : List Oper} {i i' : Nat} {tm tm' : List AVal} {hp hp' : Heap} {y : AVal} (hg : guardA all tm o = some true) (hw : isWriter o = false) (hl : ∀ j, j ∈ touched tm o → j < nx) (hs : astep P tm hp (nx + i) o = some (y, hp'))
    (ht : putT tm o.dst y = tm') (hn : i + 1 = i') (h : DV P all nx K rest i' tm' hp') : DV P all nx K (o :: rest) i tm hp := fun tc htc =>
  D_stepE hg hs ht hn rfl (h _ (by rw [hw]; exact allOld_append htc hl))

theorem V_mvE {nx : Nat} {o : Oper} {rest : List Oper} {i i' : Nat} {tm tm' : List AVal} {hp : Heap} {t : Tmp} {y : AVal} (hop : mvT o.op = some t) (hg : guardA all tm o = some true) (hw : isWriter o = false) (hy : tm[t]? = some y) (hl : ∀ j, j ∈ touched tm o → j < nx)
    (ht : putT tm o.dst y = tm') (hn : i + 1 = i') (h : DV P all nx K rest i' tm' hp) : DV P all nx K (o :: rest) i tm hp := V_stepE hg hw hl (astep_mv hop hy) ht hn h

theorem V_skipE {nx : Nat} {o : Oper} {rest : List Oper} {i i' : Nat} {tm tm' : List AVal} {hp : Heap} (hg : guardA all tm o = some false)
    (ht : putT tm o.dst (.tuple []) = tm') (hn : i + 1 = i') (h : DV P all nx K rest i' tm' hp) : DV P all nx K (o :: rest) i tm hp := fun tc htc =>
  D_skipE hg ht hn rfl (h _ (allOld_append htc fun j hj => by cases hj))

theorem V_callE {nx : Nat} {o : Oper} {rest : List Oper} {i i' : Nat} {tm tm' : List AVal} {hp : Heap} {c : Call} {g : FuncId} {args : List AVal} {r : AVal} (hg : guardA all tm o = some true) (ho : o.op = .call c) (ht : target tm c = some (g, args))
    (hp' : PCall P g args (· = r)) (htm : putT tm o.dst r = tm') (hn : i + 1 = i') (h : DV P all nx K rest i' tm' hp) : DV P all nx K (o :: rest) i tm hp := fun tc htc =>
  D_callE hg ho ht hp' htm hn rfl (h _ (allOld_append htc fun j hj => by cases hj))

theorem V_split {nx : Nat} {rest : List Oper} {i : Nat} {tm t1 t2 : List AVal} {hp : Heap} {o : Oper} {j : Nat} {want : Bool} {d : Tmp} {b : Bool} (hg : o.guard = some (j, want)) (hd : (all[j]?).bind (·.dst) = some d) (hb : tm[d]? = some (.bool b))
    (e1 : tm.set d (.bool true) = t1) (e2 : tm.set d (.bool false) = t2) (h1 : b = true → DV P all nx K (o :: rest) i t1 hp) (h2 : b = false → DV P all nx K (o :: rest) i t2 hp) : DV P all nx K (o :: rest) i tm hp := fun tc htc =>
  D_split hg hd hb e1 e2 (fun h => h1 h tc htc) (fun h => h2 h tc htc)

theorem V_end {nx n : Nat} {i : Nat} {tm : List AVal} {h : Heap} (hi : i = all.size) (hn : nx + i = n) (hk : K ⟨tm, h, n⟩) : DV P all nx K [] i tm h := fun tc htc => D_end hi (indepB_reads htc) hn hk

end
end Go.AM
