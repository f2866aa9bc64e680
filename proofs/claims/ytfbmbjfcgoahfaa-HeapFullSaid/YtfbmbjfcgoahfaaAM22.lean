/-
  AM, part 22: a row of operations, one by one.
-/
import Derived.Test.YtfbmbjfcgoahfaaAM21
set_option linter.unusedVariables false
namespace Go.AM
open Go

section
variable {fl : Bool} {P : Program} {n0 : Nat} {all : Array Oper} {K : St → Prop}

theorem W_reg {Q : Exit → St → Prop} {s : St} {k : List It} {id : Nat} {ops : List Oper} (h : ∀ K : St → Prop, (∀ s', unw P n0 k Q .normal s' → K s') → AO P n0 ops.toArray ops 0 K s) :
    AWP P n0 (.region id ops.toArray false) (unw P n0 k Q) s := by
  refine AWP_region ?_
  have := h (fun s => unw P n0 k Q .normal s) fun _ h => h
  simpa using this

theorem AO_stepE {o : Oper} {rest : List Oper} {i nx nx' : Nat} {tm tm' : List AVal} {hp hp' : Heap} {y : AVal} (hg : guardA all tm o = some true) (hs : astep P tm hp nx o = some (y, hp'))
    (ht : putT tm o.dst y = tm') (hn : nx + 1 = nx') (h : AO P n0 all rest (i + 1) K ⟨tm', hp', nx'⟩) : AO P n0 all (o :: rest) i K ⟨tm, hp, nx⟩ := by
  subst ht
  subst hn
  exact AO_step hg hs h

theorem AO_skipE {o : Oper} {rest : List Oper} {i nx nx' : Nat} {tm tm' : List AVal} {hp : Heap} (hg : guardA all tm o = some false)
    (ht : putT tm o.dst (.tuple []) = tm') (hn : nx + 1 = nx') (h : AO P n0 all rest (i + 1) K ⟨tm', hp, nx'⟩) : AO P n0 all (o :: rest) i K ⟨tm, hp, nx⟩ := by
  subst ht
  subst hn
  exact AO_skip hg h

theorem AO_callE {o : Oper} {rest : List Oper} {i nx nx' : Nat} {tm tm' : List AVal} {hp : Heap} {c : Call} {g : FuncId} {args : List AVal} {r : AVal} (hg : guardA all tm o = some true) (ho : o.op = .call c) (ht : target tm c = some (g, args))
    (hp' : PCall P g args (· = r)) (htm : putT tm o.dst r = tm') (hn : nx + 1 = nx') (h : AO P n0 all rest (i + 1) K ⟨tm', hp, nx'⟩) : AO P n0 all (o :: rest) i K ⟨tm, hp, nx⟩ := by
  subst htm
  subst hn
  exact AO_call0 hg ho ht hp' h

theorem W_drw {Q : Exit → St → Prop} {tm : List AVal} {hp : Heap} {nx : Nat} {k : List It} {id : Nat} {ops : List Oper} (hm : P.follows .mixedOrders = true) (hc : chk ops.toArray (preds ops.toArray) = true)
    (h : ∀ K : St → Prop, (∀ s', unw P n0 k Q .normal s' → K s') → DW true P ops.toArray nx K ops 0 tm hp []) : AWP P n0 (.region id ops.toArray true) (unw P n0 k Q) ⟨tm, hp, nx⟩ :=
  AWP_draw hm hc (h (fun s => unw P n0 k Q .normal s) (fun _ h => h) (by simp))

theorem W_drwF {Q : Exit → St → Prop} {tm : List AVal} {hp : Heap} {nx : Nat} {k : List It} {id : Nat} {ops : List Oper} (hm : P.follows .mixedOrders = true) (hc : chk ops.toArray (preds ops.toArray) = true)
    (h : ∀ K : St → Prop, (∀ s', unw P n0 k Q .normal s' → K s') → DW false P ops.toArray nx K ops 0 tm hp []) : AWP P n0 (.region id ops.toArray true) (unw P n0 k Q) ⟨tm, hp, nx⟩ :=
  AWP_draw hm hc (h (fun s => unw P n0 k Q .normal s) (fun _ h => h) (by simp))

theorem D_stepE {nx : Nat} {o : Oper} {rest : List Oper} {i i' : Nat} {tm tm' : List AVal} {hp hp' : Heap} {tc tc' : List (Bool × List Nat)} {y : AVal} (hg : guardA all tm o = some true) (hs : astep P tm hp (nx + i) o = some (y, hp'))
    (ht : putT tm o.dst y = tm') (hn : i + 1 = i') (hc : tc ++ [(isWriter o, touched tm o)] = tc') (h : DW fl P all nx K rest i' tm' hp' tc') : DW fl P all nx K (o :: rest) i tm hp tc := by
  subst ht
  subst hn
  subst hc
  exact fun hd => let ⟨ho, hd'⟩ := drop_cons hd; .step i tm hp tc o y hp' ho hg hs (h hd')

theorem D_skipE {nx : Nat} {o : Oper} {rest : List Oper} {i i' : Nat} {tm tm' : List AVal} {hp : Heap} {tc tc' : List (Bool × List Nat)} (hg : guardA all tm o = some false)
    (ht : putT tm o.dst (.tuple []) = tm') (hn : i + 1 = i') (hc : tc ++ [(false, [])] = tc') (h : DW fl P all nx K rest i' tm' hp tc') : DW fl P all nx K (o :: rest) i tm hp tc := by
  subst ht
  subst hn
  subst hc
  exact D_skip hg h

theorem D_callE {nx : Nat} {o : Oper} {rest : List Oper} {i i' : Nat} {tm tm' : List AVal} {hp : Heap} {tc tc' : List (Bool × List Nat)} {c : Call} {g : FuncId} {args : List AVal} {r : AVal} (hg : guardA all tm o = some true) (ho : o.op = .call c) (ht : target tm c = some (g, args))
    (hp' : PCall P g args (· = r)) (htm : putT tm o.dst r = tm') (hn : i + 1 = i') (hc : tc ++ [(false, [])] = tc') (h : DW fl P all nx K rest i' tm' hp tc') : DW fl P all nx K (o :: rest) i tm hp tc := by
  subst htm
  subst hn
  subst hc
  exact D_call0 hg ho ht hp' h

theorem D_end {nx n : Nat} {i : Nat} {tm : List AVal} {h : Heap} {tc : List (Bool × List Nat)} (hi : i = all.size) (hind : indepB i nx (preds all) tc = true) (hn : nx + i = n) (hk : K ⟨tm, h, n⟩) : DW fl P all nx K [] i tm h tc := by
  subst hn
  exact D_nil hi hind hk

theorem guardA_none {tm : List AVal} {o : Oper} (hg : o.guard = none) : guardA all tm o = some true := by
  unfold guardA; rw [hg]

theorem guardA_at {tm : List AVal} {o : Oper} {j : Nat} {want : Bool} {d : Tmp} {b : Bool} (hg : o.guard = some (j, want)) (hd : (all[j]?).bind (·.dst) = some d) (hb : tm[d]? = some (.bool b)) : guardA all tm o = some (b == want) := by
  unfold guardA
  rw [hg]
  simp only [hd, List.getD_eq_getElem?_getD, hb, Option.getD_some]

theorem guardA_yes {tm : List AVal} {o : Oper} {j : Nat} {want : Bool} {d : Tmp} {b : Bool} (hg : o.guard = some (j, want)) (hd : (all[j]?).bind (·.dst) = some d) (hb : tm[d]? = some (.bool b)) (hw : b = want) : guardA all tm o = some true := by
  rw [guardA_at hg hd hb, hw, beq_self_eq_true]

theorem guardA_no {tm : List AVal} {o : Oper} {j : Nat} {want : Bool} {d : Tmp} {b : Bool} (hg : o.guard = some (j, want)) (hd : (all[j]?).bind (·.dst) = some d) (hb : tm[d]? = some (.bool b)) (hw : (!b) = want) : guardA all tm o = some false := by
  rw [guardA_at hg hd hb, ← hw]
  cases b <;> rfl

theorem guardA_gone {tm : List AVal} {o : Oper} {j : Nat} {want : Bool} {d : Tmp} (hg : o.guard = some (j, want)) (hd : (all[j]?).bind (·.dst) = some d) (hb : tm[d]? = some (.tuple [])) : guardA all tm o = some false := by
  unfold guardA
  rw [hg]
  simp only [hd, List.getD_eq_getElem?_getD, hb, Option.getD_some]

theorem guardA_noT {tm : List AVal} {o : Oper} {j : Nat} {d : Tmp} {b : Bool} (hg : o.guard = some (j, true)) (hd : (all[j]?).bind (·.dst) = some d) (hb : tm[d]? = some (.bool b)) (hw : b = false) : guardA all tm o = some false := by
  rw [guardA_at hg hd hb, hw]; rfl

theorem guardA_noF {tm : List AVal} {o : Oper} {j : Nat} {d : Tmp} {b : Bool} (hg : o.guard = some (j, false)) (hd : (all[j]?).bind (·.dst) = some d) (hb : tm[d]? = some (.bool b)) (hw : b = true) : guardA all tm o = some false := by
  rw [guardA_at hg hd hb, hw]; rfl

theorem set_same {tm : List AVal} {d : Nat} {x : AVal} (h : tm[d]? = some x) : tm.set d x = tm := by
  apply List.ext_getElem?
  intro k
  rw [List.getElem?_set]
  split
  · rename_i e
    subst e
    rw [h, if_pos (List.getElem?_eq_some_iff.1 h).1]
  · rfl

/-- A guard that is not known yet: the one or the other. -/
theorem AO_split {rest : List Oper} {i nx : Nat} {tm t1 t2 : List AVal} {hp : Heap} {o : Oper} {j : Nat} {want : Bool} {d : Tmp} {b : Bool} (hg : o.guard = some (j, want)) (hd : (all[j]?).bind (·.dst) = some d) (hb : tm[d]? = some (.bool b))
    (e1 : tm.set d (.bool true) = t1) (e2 : tm.set d (.bool false) = t2) (h1 : b = true → AO P n0 all (o :: rest) i K ⟨t1, hp, nx⟩) (h2 : b = false → AO P n0 all (o :: rest) i K ⟨t2, hp, nx⟩) : AO P n0 all (o :: rest) i K ⟨tm, hp, nx⟩ := by
  cases b with
  | true => rw [set_same hb] at e1; subst e1; exact h1 rfl
  | false => rw [set_same hb] at e2; subst e2; exact h2 rfl

theorem D_split {nx : Nat} {rest : List Oper} {i : Nat} {tm t1 t2 : List AVal} {hp : Heap} {tc : List (Bool × List Nat)} {o : Oper} {j : Nat} {want : Bool} {d : Tmp} {b : Bool} (hg : o.guard = some (j, want)) (hd : (all[j]?).bind (·.dst) = some d) (hb : tm[d]? = some (.bool b))
    (e1 : tm.set d (.bool true) = t1) (e2 : tm.set d (.bool false) = t2) (h1 : b = true → DW fl P all nx K (o :: rest) i t1 hp tc) (h2 : b = false → DW fl P all nx K (o :: rest) i t2 hp tc) : DW fl P all nx K (o :: rest) i tm hp tc := by
  cases b with
  | true => rw [set_same hb] at e1; subst e1; exact h1 rfl
  | false => rw [set_same hb] at e2; subst e2; exact h2 rfl

/-- A condition, and the slot is what it turned out to be. -/
theorem W_condE {n0 : Nat} {Q : Exit → St → Prop} {tm t1 t2 : List AVal} {hp : Heap} {nx : Nat} {k : List It} {t : Tmp} {x y : Code} {b : Bool} (hb : tm[t]? = some (.bool b)) (e1 : tm.set t (.bool true) = t1) (e2 : tm.set t (.bool false) = t2)
    (h1 : b = true → AWP P n0 x (unw P n0 k Q) ⟨t1, hp, nx⟩) (h2 : b = false → AWP P n0 y (unw P n0 k Q) ⟨t2, hp, nx⟩) : AWP P n0 (.cond (.tmp t) x y) (unw P n0 k Q) ⟨tm, hp, nx⟩ := by
  refine W_cond (b := b) ?_ (fun h => ?_) (fun h => ?_)
  · simp only [ev, List.getD_eq_getElem?_getD, hb, Option.getD_some]
  · subst h; rw [set_same hb] at e1; subst e1; exact h1 rfl
  · subst h; rw [set_same hb] at e2; subst e2; exact h2 rfl

end
end Go.AM
