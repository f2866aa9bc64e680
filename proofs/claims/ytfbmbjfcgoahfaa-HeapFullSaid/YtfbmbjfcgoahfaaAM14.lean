/-
  AM, part 14: going through code with what is still to be done as a list; a row of operations by evaluation.
-/
import Derived.Test.YtfbmbjfcgoahfaaAM13
namespace Go.AM
open Go

/-- What is still to be done. -/
inductive It where
  | code (c : Code)
  | blk (id : Nat)

def unw (P : Program) (n0 : Nat) : List It → (Exit → St → Prop) → Exit → St → Prop
  | [], Q => Q
  | .code c :: k, Q => thenQ (AWP P n0 c (unw P n0 k Q)) (unw P n0 k Q)
  | .blk id :: k, Q => blockQ id (unw P n0 k Q)

section
variable {P : Program} {n0 : Nat} {Q : Exit → St → Prop} {s : St} {k : List It}

theorem W_seq {x y : Code} (h : AWP P n0 x (unw P n0 (.code y :: k) Q) s) : AWP P n0 (x.seq y) (unw P n0 k Q) s := AWP_seq h
theorem W_block {id : Nat} {c : Code} (h : AWP P n0 c (unw P n0 (.blk id :: k) Q) s) : AWP P n0 (.block id c) (unw P n0 k Q) s := AWP_block h
theorem W_skip (h : unw P n0 k Q .normal s) : AWP P n0 .skip (unw P n0 k Q) s := AWP_skip h
theorem W_exit {id : Nat} (h : unw P n0 k Q (.exit id) s) : AWP P n0 (.exit id) (unw P n0 k Q) s := AWP_exit h
theorem W_ret (h : unw P n0 k Q .ret s) : AWP P n0 .ret (unw P n0 k Q) s := AWP_ret h
theorem W_start {c : Code} (h : AWP P n0 c (unw P n0 [] Q) s) : AWP P n0 c Q s := h

theorem W_cond {c : Operand} {x y : Code} {b : Bool} (hc : ev s.tmps c = .bool b) (h1 : b = true → AWP P n0 x (unw P n0 k Q) s) (h2 : b = false → AWP P n0 y (unw P n0 k Q) s) : AWP P n0 (.cond c x y) (unw P n0 k Q) s := AWP_cond hc h1 h2

theorem N_code {c : Code} (h : AWP P n0 c (unw P n0 k Q) s) : unw P n0 (.code c :: k) Q .normal s := h
theorem N_blk {id : Nat} (h : unw P n0 k Q .normal s) : unw P n0 (.blk id :: k) Q .normal s := h
theorem N_nil (h : Q .normal s) : unw P n0 [] Q .normal s := h
theorem E_code {c : Code} {id : Nat} (h : unw P n0 k Q (.exit id) s) : unw P n0 (.code c :: k) Q (.exit id) s := h
theorem E_blk {id : Nat} (h : unw P n0 k Q .normal s) : unw P n0 (.blk id :: k) Q (.exit id) s := by
  show blockQ id _ _ s
  simp only [blockQ, if_true]; exact h
theorem E_blk_ne {id id' : Nat} (hn : ¬ id' = id) (h : unw P n0 k Q (.exit id') s) : unw P n0 (.blk id :: k) Q (.exit id') s := by
  show blockQ id _ _ s
  simp only [blockQ, if_neg hn]; exact h
theorem R_code {c : Code} (h : unw P n0 k Q .ret s) : unw P n0 (.code c :: k) Q .ret s := h
theorem R_blk {id : Nat} (h : unw P n0 k Q .ret s) : unw P n0 (.blk id :: k) Q .ret s := h
theorem R_nil (h : Q .ret s) : unw P n0 [] Q .ret s := h

end

def isCall (o : Oper) : Bool :=
  match o.op with
  | .call c => match c.callee with | .builtin _ => false | _ => true
  | _ => false

/-- What has to be shown on either side of a guard; it is looked into only as soon as the guard is known. -/
def gsplit (g : Bool) (A B : Prop) : Prop := (g = true → A) ∧ (g = false → B)

@[congr] theorem gsplit_congr {g g' : Bool} {A B : Prop} (h : g = g') : gsplit g A B = gsplit g' A B := by rw [h]
theorem gsplit_true (A B : Prop) : gsplit true A B = A := by simp [gsplit]
theorem gsplit_false (A B : Prop) : gsplit false A B = B := by simp [gsplit]
theorem gsplit_intro {g : Bool} {A B : Prop} (h1 : g = true → A) (h2 : g = false → B) : gsplit g A B := ⟨h1, h2⟩

/-- A row of operations up to its next call. -/
def arun (P : Program) (all : Array Oper) (K : List Oper → Nat → St → Prop) : List Oper → Nat → St → Prop
  | [], i, s => K [] i s
  | o :: rest, i, s =>
    match isCall o with
    | true => K (o :: rest) i s
    | false =>
      match guardA all s.tmps o with
      | none => False
      | some g =>
        gsplit g (match astep P s.tmps s.h s.nx o with | some (y, h') => arun P all K rest (i + 1) ⟨putT s.tmps o.dst y, h', s.nx + 1⟩ | none => False)
          (arun P all K rest (i + 1) ⟨putT s.tmps o.dst (.tuple []), s.h, s.nx + 1⟩)

theorem AO_arun {P : Program} {n0 : Nat} {all : Array Oper} {K' : St → Prop} {K : List Oper → Nat → St → Prop} (hK : ∀ rest i s, K rest i s → AO P n0 all rest i K' s) :
    ∀ (rest : List Oper) (i : Nat) (s : St), arun P all K rest i s → AO P n0 all rest i K' s
  | [], i, s, h => hK _ _ _ h
  | o :: rest, i, s, h => by
    simp only [arun] at h
    split at h
    · exact hK _ _ _ h
    · split at h
      · exact h.elim
      · rename_i g hg
        cases g with
        | true =>
          have h := h.1 rfl
          split at h
          · rename_i y h' hy
            exact AO_step hg hy (AO_arun hK rest (i + 1) _ h)
          · exact h.elim
        | false => exact AO_skip hg (AO_arun hK rest (i + 1) _ (h.2 rfl))

section
variable {P : Program} {n0 : Nat} {Q : Exit → St → Prop} {s : St} {k : List It}

/-- A row of operations. -/
theorem W_region {id : Nat} {ops : Array Oper} (h : ∀ K : List Oper → Nat → St → Prop, (∀ rest i s', AO P n0 ops rest i (fun s => unw P n0 k Q .normal s) s' → K rest i s') → arun P ops K ops.toList 0 s) :
    AWP P n0 (.region id ops false) (unw P n0 k Q) s :=
  AWP_region (AO_arun (fun _ _ _ h => h) _ _ _ (h _ fun _ _ _ h => h))

/-- The rest of a row, behind a call. -/
theorem O_run {all : Array Oper} {K' : St → Prop} {rest : List Oper} {i : Nat} (h : ∀ K : List Oper → Nat → St → Prop, (∀ rest i s', AO P n0 all rest i K' s' → K rest i s') → arun P all K rest i s) : AO P n0 all rest i K' s :=
  AO_arun (fun _ _ _ h => h) _ _ _ (h _ fun _ _ _ h => h)

theorem O_nil {all : Array Oper} {i : Nat} (h : unw P n0 k Q .normal s) : AO P n0 all [] i (fun s => unw P n0 k Q .normal s) s := AO_nil h

theorem W_loop {c : Code} (I : Nat → St → Prop) (n : Nat) (s' : St) (h0 : I n s') (hw : Weak n0 s s')
    (round : ∀ n s, I n s → AWP P n0 c (thenQ (fun s' => ∃ m, m < n ∧ ∃ s'', I m s'' ∧ Weak n0 s' s'') (unw P n0 k Q)) s) : AWP P n0 (.loop c) (unw P n0 k Q) s :=
  AWP_weak s' hw (AWP_loop I n h0 round)

end
end Go.AM
