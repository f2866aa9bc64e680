/-
  AM, part 47: the spare room of lists inside an object, or in slots, is forgotten; answers that are several numbers.
-/
import Derived.Test.YtfbmbjfcgoahfaaAM46
set_option linter.unusedVariables false
namespace Go.AM
open Go

theorem get_of_len {α β : Type} {xs : List α} {ys : List β} (h : ys.length = xs.length) {i : Nat} {y : β} (hy : ys[i]? = some y) : ∃ x, xs[i]? = some x := by
  have := (List.getElem?_eq_some_iff.1 hy).1
  exact ⟨xs[i]'(by omega), List.getElem?_eq_getElem _⟩

/-- The same value, with less known of it. -/
theorem Frz.same {c : Cx} {x y : AVal} (f : Frz [] (fun _ => False) x y) : ∀ v, VRel c x v → VRel c y v := by
  induction f with
  | refl x => exact fun v h => h
  | ref id sz base len ex c esz rows rows' lim hS => exact hS.elim
  | ptr id sz row col esz rows r cells hS => exact hS.elim
  | agg xs ys hlen hrel ih =>
    intro v hv
    cases hv with | agg _ vs h1 h2 h3 =>
    refine .agg _ vs (by omega) h2 fun i y u hy hu => ?_
    obtain ⟨x, hx⟩ := get_of_len hlen hy
    exact ih i x y hx hy u (h3 i x u hx hu)
  | tuple xs ys hlen hrel ih =>
    intro v hv
    cases hv with | tuple _ vs h1 h3 =>
    refine .tuple _ vs (by omega) fun i y u hy hu => ?_
    obtain ⟨x, hx⟩ := get_of_len hlen hy
    exact ih i x y hx hy u (h3 i x u hx hu)
  | func fn xs ys us vs hlen hlen' hrel hrel' ih ih' =>
    intro v hv
    cases hv with | func _ _ _ as bs h1 h2 h3 h4 =>
    refine .func _ _ _ as bs (by omega) (by omega) (fun i y u hy hu => ?_) fun i y u hy hu => ?_
    · obtain ⟨x, hx⟩ := get_of_len hlen hy
      exact ih i x y hx hy u (h3 i x u hx hu)
    · obtain ⟨x, hx⟩ := get_of_len hlen' hy
      exact ih' i x y hx hy u (h4 i x u hx hu)
  | iface t x y hrel ih =>
    intro v hv
    cases hv with | iface _ _ u h => exact .iface _ _ u (ih u h)
  | sl rows rows' lim hlen hrow hrel ih =>
    intro v hv
    cases hv with | sl _ _ a cap esz blk off vals hcap hlim hrow0 ha hcell hrel0 =>
    have h := VRel.sl (c := c) rows' Option.none a cap esz blk off vals (by omega) (fun l h => by cases h) (fun r' hr' => ?_) (fun hne => ?_) (fun i r' j x' h1 h2 => ?_) fun i r' j x' h1 h2 => ?_
    · rw [hlen] at h
      exact h
    · obtain ⟨i, hi⟩ := mem_get hr'
      obtain ⟨r, hr⟩ := get_of_len hlen hi
      rw [hrow i r r' hr hi]
      exact hrow0 r (List.mem_of_getElem? hr)
    · refine ha fun e => hne ?_
      subst e
      exact List.length_eq_zero_iff.1 (by simpa using hlen)
    · obtain ⟨r, hr⟩ := get_of_len hlen h1
      obtain ⟨x, hx⟩ := get_of_len (hrow i r r' hr h1) h2
      exact hcell i r j x hr hx
    · obtain ⟨r, hr⟩ := get_of_len hlen h1
      obtain ⟨x, hx⟩ := get_of_len (hrow i r r' hr h1) h2
      exact ih i r r' j x x' hr h1 hx h2 _ (hrel0 i r j x hr hx)

theorem Frz.nmS {p : Nat → Prop} {x y : AVal} (f : Frz [] (fun _ => False) x y) : Nm p x → Nm p y := by
  induction f with
  | refl x => exact fun h => h
  | ref id sz base len ex c esz rows rows' lim hS => exact hS.elim
  | ptr id sz row col esz rows r cells hS => exact hS.elim
  | agg xs ys hlen hrel ih =>
    intro hv
    cases hv with | agg _ h =>
    refine .agg _ fun y hy => ?_
    obtain ⟨i, hi⟩ := mem_get hy
    obtain ⟨x, hx⟩ := get_of_len hlen hi
    exact ih i x y hx hi (h x (List.mem_of_getElem? hx))
  | tuple xs ys hlen hrel ih =>
    intro hv
    cases hv with | tuple _ h =>
    refine .tuple _ fun y hy => ?_
    obtain ⟨i, hi⟩ := mem_get hy
    obtain ⟨x, hx⟩ := get_of_len hlen hi
    exact ih i x y hx hi (h x (List.mem_of_getElem? hx))
  | func fn xs ys us vs hlen hlen' hrel hrel' ih ih' =>
    intro hv
    cases hv with | func _ _ _ h h' =>
    refine .func _ _ _ (fun y hy => ?_) fun y hy => ?_
    · obtain ⟨i, hi⟩ := mem_get hy
      obtain ⟨x, hx⟩ := get_of_len hlen hi
      exact ih i x y hx hi (h x (List.mem_of_getElem? hx))
    · obtain ⟨i, hi⟩ := mem_get hy
      obtain ⟨x, hx⟩ := get_of_len hlen' hi
      exact ih' i x y hx hi (h' x (List.mem_of_getElem? hx))
  | iface t x y hrel ih =>
    intro hv
    cases hv with | iface _ _ h => exact .iface _ _ (ih h)
  | sl rows rows' lim hlen hrow hrel ih =>
    intro hv
    cases hv with | sl _ _ h =>
    refine .sl _ _ fun r' hr' y hy => ?_
    obtain ⟨i, hi⟩ := mem_get hr'
    obtain ⟨r, hr⟩ := get_of_len hlen hi
    obtain ⟨j, hj⟩ := mem_get hy
    obtain ⟨x, hx⟩ := get_of_len (hrow i r r' hr hi) hj
    exact ih i r r' j x y hr hi hx hj (h r (List.mem_of_getElem? hr) x (List.mem_of_getElem? hx))

abbrev FrR0 (xs ys : List (List AVal)) : Prop := FrR [] (fun _ => False) xs ys

section
variable {fl : Bool} {P : Program} {n0 : Nat} {Q : Exit → St → Prop} {k : List It} {all : Array Oper} {K : St → Prop}

theorem SIn.relax {ext : Nat → Prop} {β : Nat → Option Nat} {tm tm' : List AVal} {h : Heap} {nx id esz : Nat} {xs ys : List (List AVal)} {a : Act} {w : World} (i : SIn n0 ext β ⟨tm, h, nx⟩ a w) (hl : lk h id = some (.arr esz xs)) (fr : FrR0 xs ys) (ft : FrC0 tm tm') :
    SIn n0 ext β ⟨tm', hset h id (.arr esz ys), nx⟩ a w ∧ Goes n0 ext β h w β (hset h id (.arr esz ys)) w := by
  have hk := fun j => lk_hset' (h := h) (id := id) (j := j) (o := .arr esz ys) (by rw [hl]; rfl)
  have back : ∀ {j o'}, lk (hset h id (.arr esz ys)) j = some o' → ∃ o, lk h j = some o ∧ (o' = o ∨ (j = id ∧ o = .arr esz xs ∧ o' = .arr esz ys)) := by
    intro j o' e
    rw [hk] at e
    split at e
    · rename_i hj
      subst hj
      injection e with e
      exact ⟨_, hl, .inr ⟨rfl, rfl, e.symm⟩⟩
    · exact ⟨_, e, .inl rfl⟩
  have hown : ∀ b, owns β (hset h id (.arr esz ys)) b → owns β h b := fun b ⟨j, o', e1, e2⟩ => let ⟨o, e3, _⟩ := back e1; ⟨j, o, e3, e2⟩
  have st : ∀ p : Nat → Prop, Step p (cx ext β h w) (cx ext β (hset h id (.arr esz ys)) w) := fun p =>
    { cell := fun b o v h1 h2 => ⟨fun h3 => h1 (h3.imp (fun e => e) (hown b)), h2⟩
      shape := fun _ _ h => h
      arr := fun j _ esz' rows hr => by
        obtain ⟨o, h1, h2⟩ := back hr
        rcases h2 with h2 | ⟨_, h2, h3⟩
        · exact ⟨rows, by rw [h2]; exact h1, Nat.le_refl _, fun _ => rfl⟩
        · injection h3 with h3 h4
          subst h3
          subst h4
          subst h2
          exact ⟨xs, h1, Nat.le_of_eq fr.len.symm, fun _ => rfl⟩
      mp := fun j _ es hr => by
        obtain ⟨o, h1, h2⟩ := back hr
        rcases h2 with h2 | ⟨_, _, h3⟩
        · exact ⟨es, by rw [h2]; exact h1, rfl⟩
        · cases h3 }
  have hin := i.heap
  refine ⟨⟨⟨fun j o' hj => ?_, fun j o' hj => ?_, fun j j' o o' b h1 h2 h3 h4 => ?_, fun b hb => ⟨(hin.ext b hb).1, fun e => (hin.ext b hb).2 (hown b e)⟩⟩, by rw [i.size]; exact ft.len.symm, fun k y v hy hv => ?_, fun y hy => ?_, i.defers, i.low⟩,
    ⟨⟨Nat.le_refl _, fun _ _ _ => rfl, fun b _ e => hown b e, fun _ _ h => h, rfl, rfl, rfl⟩, st _⟩⟩
  · obtain ⟨o, h1, h2⟩ := back hj
    have h3 := (hin.nm j o h1).2
    rcases h2 with rfl | ⟨rfl, rfl, rfl⟩
    · exact ObIn.step (st _) rfl (fun _ _ => rfl) h3 (hin.ob j o' h1)
    · obtain ⟨h4, h5⟩ := hin.ob j _ h1
      refine ⟨fun r' hr' => ?_, ?_⟩
      · obtain ⟨m, hm⟩ := mem_get hr'
        obtain ⟨r, hr⟩ := get_of_len fr.len hm
        rw [(fr.get m r r' hr hm).len]
        exact h4 r (List.mem_of_getElem? hr)
      · show match β j with | none => _ | some b => _
        have h5' : match β j with | none => xs = [] | some b => _ := h5
        cases hb : β j with
        | none =>
          simp only [hb] at h5' ⊢
          subst h5'
          cases fr
          rfl
        | some b =>
          simp only [hb] at h5' ⊢
          obtain ⟨cs, e', h6, h7, h8⟩ := h5'
          refine ⟨cs, e', h6, by rw [fr.len]; exact h7, fun m r' q x' hr' hx' => ?_⟩
          obtain ⟨r, hr⟩ := get_of_len fr.len hr'
          have fc := fr.get m r r' hr hr'
          obtain ⟨x, hx⟩ := get_of_len fc.len hx'
          obtain ⟨v, h11, h12, h13⟩ := h8 m r q x hr hx
          exact ⟨v, h11, h12, ((fc.get q x x' hx hx').same v h13).step (st _) ((fc.get q x x' hx hx').nmS (h3 r (List.mem_of_getElem? hr) x (List.mem_of_getElem? hx)))⟩
  · obtain ⟨o, h1, h2⟩ := back hj
    have h3 := hin.nm j o h1
    rcases h2 with rfl | ⟨rfl, rfl, rfl⟩
    · exact h3
    · refine ⟨h3.1, fun r' hr' x' hx' => ?_⟩
      obtain ⟨m, hm⟩ := mem_get hr'
      obtain ⟨r, hr⟩ := get_of_len fr.len hm
      have fc := fr.get m r r' hr hm
      obtain ⟨q, hq⟩ := mem_get hx'
      obtain ⟨x, hx⟩ := get_of_len fc.len hq
      exact (fc.get q x x' hx hq).nmS (h3.2 r (List.mem_of_getElem? hr) x (List.mem_of_getElem? hx))
  · obtain ⟨o1, e1, _⟩ := back h1
    obtain ⟨o2, e2, _⟩ := back h2
    exact hin.inj j j' o1 o2 b e1 e2 h3 h4
  · obtain ⟨x, hx⟩ := get_of_len ft.len hy
    have f := ft.get k x y hx hy
    exact (f.same v (i.rel k x v hx hv)).step (st _) (f.nmS (i.nm x (List.mem_of_getElem? hx)))
  · obtain ⟨k, hk2⟩ := mem_get hy
    obtain ⟨x, hx⟩ := get_of_len ft.len hk2
    exact (ft.get k x y hx hk2).nmS (i.nm x (List.mem_of_getElem? hx))

/-- Inside an object the spare room of lists is forgotten. -/
theorem W_relaxT {c : Code} {tm : List AVal} {hp hp' : Heap} {nx : Nat} (id esz : Nat) (xs ys : List (List AVal)) (hl : lk hp id = some (.arr esz xs)) (fr : FrR0 xs ys) (e : hset hp id (.arr esz ys) = hp') (h : AWP P n0 c (unw P n0 k Q) ⟨tm, hp', nx⟩) : AWP P n0 c (unw P n0 k Q) ⟨tm, hp, nx⟩ := by
  subst e
  intro ext β a w i
  obtain ⟨i2, g2⟩ := i.relax hl fr (FrC.refl _)
  exact wp_mono (h ext β a w i2) fun _ _ _ p => p.after g2

/-- An object is taken for a list. -/
theorem W_frzI {α : Type} [Enc α] {c : Code} {tm tm' : List AVal} {hp hp' : Heap} {nx esz : Nat} {xs : List (List AVal)} (id : Nat) (l : List α) (n : Nat) (hl : lk hp id = some (.arr esz xs)) (e : xs = rws l) (hn : l.length = n)
    (e1 : tm.map (subA id n (rws l)) = tm') (e2 : subH id n (rws l) hp = hp') (h : AWP P n0 c (unw P n0 k Q) ⟨tm', hp', nx⟩) : AWP P n0 c (unw P n0 k Q) ⟨tm, hp, nx⟩ := by
  subst e
  subst e1
  subst e2
  intro ext β a w i
  obtain ⟨i2, g2⟩ := i.sub hl (by rw [rws_length, hn]) (rws_fz l Option.none)
  exact wp_mono (h ext β a w i2) fun _ _ _ p => p.after g2

end

theorem FrR.snoc {xs ys : List (List AVal)} {r r' : List AVal} (f : FrR0 xs ys) (h : FrC0 r r') : FrR0 (xs ++ [r]) (ys ++ [r']) := by
  induction f with
  | nil => exact .cons h .nil
  | cons h1 _ ih => exact .cons h1 ih

theorem FrR.rep {r r' : List AVal} (h : FrC0 r r') : ∀ n : Nat, FrR0 (List.replicate n r) (List.replicate n r')
  | 0 => .nil
  | n + 1 => .cons h (FrR.rep h n)

theorem Flat.two {x y : AVal} (h1 : Flat x) (h2 : Flat y) : Flat (.tuple [x, y]) := Flat.tuple fun z hz => by
  simp only [List.mem_cons, List.not_mem_nil, or_false] at hz
  rcases hz with rfl | rfl
  · exact h1
  · exact h2

end Go.AM

namespace Go.AM
open Go

section
variable {fl : Bool} {P : Program} {n0 : Nat} {Q : Exit → St → Prop} {k : List It}

/-- A state may be taken for another one. -/
def Can (n0 : Nat) (s s' : St) : Prop := ∀ ext β a w, SIn n0 ext β s a w → ∃ β', SIn n0 ext β' s' a w ∧ Goes n0 ext β s.h w β' s'.h w

theorem Can.ofWeak {s s' : St} (h : Weak n0 s s') : Can n0 s s' := fun _ β _ _ i => ⟨β, (i.weak h).1, (i.weak h).2⟩
theorem Can.trans {s s2 s3 : St} (h : Can n0 s s2) (h' : Can n0 s2 s3) : Can n0 s s3 := fun ext β a w i =>
  let ⟨β2, i2, g2⟩ := h ext β a w i
  let ⟨β3, i3, g3⟩ := h' ext β2 a w i2
  ⟨β3, i3, g2.trans g3⟩

/-- An object is taken for a list. -/
theorem Can.frzI {α : Type} [Enc α] {s : St} {tm tm' : List AVal} {hp hp' : Heap} {nx esz : Nat} {xs : List (List AVal)} (id : Nat) (l : List α) (n : Nat) (hl : lk hp id = some (.arr esz xs)) (e : xs = rws l) (hn : l.length = n)
    (e1 : tm.map (subA id n (rws l)) = tm') (e2 : subH id n (rws l) hp = hp') (h : Can n0 ⟨tm', hp', nx⟩ s) : Can n0 ⟨tm, hp, nx⟩ s := by
  subst e
  subst e1
  subst e2
  refine Can.trans (fun ext β a w i => ?_) h
  obtain ⟨i2, g2⟩ := i.sub hl (by rw [rws_length, hn]) (rws_fz l Option.none)
  exact ⟨β, i2, g2⟩

/-- Inside an object the spare room of lists is forgotten. -/
theorem Can.relaxT {s : St} {tm : List AVal} {hp hp' : Heap} {nx : Nat} (id esz : Nat) (xs ys : List (List AVal)) (hl : lk hp id = some (.arr esz xs)) (fr : FrR0 xs ys) (e : hset hp id (.arr esz ys) = hp') (h : Can n0 ⟨tm, hp', nx⟩ s) : Can n0 ⟨tm, hp, nx⟩ s := by
  subst e
  refine Can.trans (fun ext β a w i => ?_) h
  obtain ⟨i2, g2⟩ := i.relax hl fr (FrC.refl _)
  exact ⟨β, i2, g2⟩

/-- A loop, whose state at a round's end may be taken for one at a round's beginning. -/
theorem W_foldC {α : Type} {c : Code} {s : St} (I : α → Prop) (M : α → Nat) (F : α → St) (a0 : α) (h0 : I a0) (hd : Can n0 s (F a0))
    (round : ∀ a, I a → AWP P n0 c (unw P n0 [] (thenQ (fun s' => ∃ a', M a' < M a ∧ I a' ∧ Can n0 s' (F a')) (unw P n0 k Q))) (F a)) : AWP P n0 (.loop c) (unw P n0 k Q) s := by
  intro ext β a w i
  obtain ⟨β1, i1, g1⟩ := hd ext β a w i
  refine wp_loop_n (P := P) (fun m a' w' => ∃ β' x, (I x ∧ m = M x) ∧ SIn n0 ext β' (F x) a' w' ∧ Goes n0 ext β s.h w β' (F x).h w') ?_ (M a0) a w ⟨β1, a0, ⟨h0, rfl⟩, i1, g1⟩
  rintro m a' w' ⟨β', x, ⟨hI, rfl⟩, i', g⟩
  refine wp_mono (round x hI ext β' a' w' i') ?_
  rintro e a2 w2 ⟨β2, s2, q, i2, g2⟩
  cases e with
  | normal =>
    obtain ⟨x', hm, hI', hc⟩ := q
    obtain ⟨β3, i3, g3⟩ := hc ext β2 a2 w2 i2
    exact ⟨M x', hm, β3, x', ⟨hI', rfl⟩, i3, (g.trans g2).trans g3⟩
  | exit id => exact ⟨β2, s2, q, i2, g.trans g2⟩
  | goto l => exact ⟨β2, s2, q, i2, g.trans g2⟩
  | ret => exact ⟨β2, s2, q, i2, g.trans g2⟩
  | panic ch => exact ⟨β2, s2, q, i2, g.trans g2⟩
  | outgrown => exact ⟨β2, s2, q, i2, g.trans g2⟩

/-- As W_foldM. -/
theorem W_foldMC {α : Type} {c : Code} {tm : List AVal} {hp : Heap} {nx : Nat} (mask : α → List (Option AVal)) (H : α → Heap) (I : α → Prop) (M : α → Nat) (a0 : α) (h0 : I a0) (hd : Can n0 ⟨tm, hp, nx⟩ ⟨msk (mask a0) tm, H a0, nx⟩)
    (round : ∀ a, I a → AWP P n0 c (unw P n0 [] (thenQ (fun s' => ∃ a', M a' < M a ∧ I a' ∧ Can n0 s' ⟨msk (mask a') tm, H a', nx⟩) (unw P n0 k Q))) ⟨msk (mask a) tm, H a, nx⟩) : AWP P n0 (.loop c) (unw P n0 k Q) ⟨tm, hp, nx⟩ :=
  W_foldC I M (fun a => ⟨msk (mask a) tm, H a, nx⟩) a0 h0 hd round
end

theorem FrC.of0 {h : Heap} {S : Nat → Prop} {xs ys : List AVal} (f : FrC0 xs ys) : FrC h S xs ys := by
  induction f with
  | nil => exact .nil
  | cons h1 _ ih => exact .cons (Frz.widen (fun _ h => h.elim) (Frz.none h1.nowhere h)) ih

theorem FrR.of0 {h : Heap} {S : Nat → Prop} {xs ys : List (List AVal)} (f : FrR0 xs ys) : FrR h S xs ys := by
  induction f with
  | nil => exact .nil
  | cons h1 _ ih => exact .cons h1.of0 ih

/-- A whole object, of whose rows less is known. -/
theorem Frz.refF {h : Heap} {S : Nat → Prop} {id n esz c : Nat} {ex : Bool} {xs ys : List (List AVal)} (hS : S id) (hl : lk h id = some (.arr esz xs)) (f : FrR0 xs ys) (hn : ys.length = n) : Frz h S (.ref id n 0 n ex c) (.sl ys Option.none) :=
  Frz.refR hS hl (by rw [← f.len, hn]) f.of0

end Go.AM

namespace Go.AM
open Go

/-- Values that are seen at once to name no object. -/
def leafOk : AVal → Bool
  | .int _ _ => true
  | .bool _ => true
  | .str _ => true
  | _ => false
def fzOk : AVal → Bool
  | .agg cs => cs.all leafOk
  | x => leafOk x
def fz0 (x : AVal) : AVal := if fzOk x = true then x else .junk

theorem leafOk_fz {x : AVal} (h : leafOk x = true) : Fz x := by
  cases x <;> first | exact .int _ _ | exact .bool _ | exact .str _ | cases h
theorem fzOk_fz {x : AVal} (h : fzOk x = true) : Fz x := by
  cases x with
  | agg cs => exact .agg _ fun y hy => leafOk_fz (List.all_eq_true.1 h y hy)
  | int k n => exact .int _ _
  | bool b => exact .bool _
  | str s => exact .str _
  | _ => cases h

theorem fz0_of {x : AVal} (h : fzOk x = true) : fz0 x = x := if_pos h

/-- A list that is built of plain values, and of which nobody knows but who built it. -/
theorem litOp_of {P : Program} {tm : List AVal} {o : Oper} {n esz c : Nat} {ex : Bool} {rows : List (List AVal)} (hst : o.op.operands.toList.all (fun x => match x with | .tmp _ => fzOk (ev tm x) | _ => true) = true)
    (hs : astep P tm [] 0 o = some (.ref 0 n 0 n ex c, [(0, .arr esz rows)])) (hn : rows.length = n) (hz : Fz (.sl rows Option.none)) : LitOp P tm o (.sl rows Option.none) := by
  intro n0 ext β p tmps h a w i hev K Q hk
  have hev2 : ∀ x, x ∈ o.op.operands → ev (tmps.map fz0) x = ev tm x := fun x hx => by
    have h1 := List.all_eq_true.1 hst x (by simpa using hx)
    have h2 := hev x hx
    cases x with
    | tmp t =>
      have e : ev (tmps.map fz0) (.tmp t) = fz0 (ev tmps (.tmp t)) := by
        simp only [ev, List.getD_eq_getElem?_getD, List.getElem?_map]
        cases tmps[t]? <;> rfl
      rw [e, h2, fz0_of h1]
    | _ => exact h2
  have st0 : Step (fun _ => False) (cx ext β h w) (cx (fun b => ext b ∨ owns β h b) (fun _ => Option.none) [] w) :=
    ⟨fun b o v h1 h2 => ⟨fun h3 => h1 (h3.resolve_right fun ⟨_, _, e, _⟩ => by simp [lk] at e), h2⟩, fun _ _ h => h, fun _ h => h.elim, fun _ h => h.elim⟩
  have hin : HIn (fun b => ext b ∨ owns β h b) (fun _ => Option.none) (fun _ => False) [] w :=
    ⟨fun id o h => by simp [lk] at h, fun id o h => by simp [lk] at h, fun id id' o o' b h => by simp [lk] at h, fun b hb => ⟨hb.elim (fun h => (i.heap.ext b h).1) fun h => i.heap.lt h, fun ⟨_, _, e, _⟩ => by simp [lk] at e⟩⟩
  have i' : SInP 0 (fun b => ext b ∨ owns β h b) (fun _ => Option.none) (fun _ => False) (tmps.map fz0) [] a w := by
    refine ⟨hin, by rw [i.size]; simp, fun k x v hx hv => ?_, fun x hx => ?_, i.defers, fun j hj => by omega⟩
    · rw [List.getElem?_map] at hx
      obtain ⟨y, hy, rfl⟩ := Option.map_eq_some_iff.1 hx
      unfold fz0
      split
      · rename_i hf
        exact (i.rel k y v hy hv).step st0 (fzOk_fz hf)
      · exact .junk v
    · obtain ⟨y, _, rfl⟩ := List.mem_map.1 hx
      unfold fz0
      split
      · rename_i hf
        exact fzOk_fz hf
      · exact .junk
  have hs2 : astep P (tmps.map fz0) [] 0 o = some (.ref 0 n 0 n ex c, [(0, .arr esz rows)]) := by rw [astep_congr hev2]; exact hs
  obtain ⟨rr, v, w', β', e1, e2, e3, e4, e5, e6, e7⟩ := astep_ok i' (fun h => h) hs2
  have hno : ∀ b, ¬ owns (fun _ => Option.none) [] b := fun b ⟨_, _, h1, _⟩ => by simp [lk] at h1
  obtain ⟨k1, k2, k3⟩ := i.heap.evo (w' := w') ⟨e6.size, fun b hb _ => e6.keep b hb (hno b), fun _ _ h => h.elim, e6.shape, e6.rest⟩
  have f := Frz.ref0 (h := [(0, Ob.arr esz rows)]) (S := fun _ => True) (id := 0) (sz := n) (base := 0) (len := n) (ex := ex) (c := c) trivial rfl hn (by omega)
  rw [List.drop_zero, List.take_of_length_le (by omega)] at f
  have r := Frz.rel (ext' := fun b => ext b ∨ owns β h b) e3 (fun b hb => .inl hb) (fun id o b _ hl hb hx => (e3.ext b hx).2 ⟨id, o, hl, hb⟩) f v e4
  have st : Step (fun _ => False) (cx (fun b => ext b ∨ owns β h b) (fun _ => Option.none) [] w') (cx ext β h w') :=
    ⟨fun b o v h1 h4 => ⟨fun h3 => h1 (Or.inl h3), h4⟩, fun _ _ h => h, fun _ h => h.elim, fun _ h => h.elim⟩
  have hgo := hk v w' k1 (r.step st hz) hz k2 k3
  unfold Oper.wp
  rw [e1]
  rcases e2 with rfl | ⟨rfl, rfl⟩
  · exact hgo
  · exact hgo

section
variable {fl : Bool} {P : Program} {all : Array Oper} {K : St → Prop}
theorem D_litE {nx : Nat} {o : Oper} {rest : List Oper} {i i' : Nat} {tm tm' : List AVal} {hp : Heap} {tc tc' : List (Bool × List Nat)} {n esz c : Nat} {ex : Bool} {rows rows' : List (List AVal)} {t : TypeId} {l : Nat} {ps : Array (Nat × Operand)} (hop : o.op = .buildSlice t l ps) (hg : guardA all tm o = some true)
    (hst : o.op.operands.toList.all (fun x => match x with | .tmp _ => fzOk (ev tm x) | _ => true) = true)
    (hs : astep P tm [] 0 o = some (.ref 0 n 0 n ex c, [(0, .arr esz rows)])) (hr : rows = rows') (hn' : rows'.length = n) (hz : Fz (.sl rows' Option.none)) (ht : putT tm o.dst (.sl rows' Option.none) = tm') (hn : i + 1 = i') (htc : tc ++ [(false, [])] = tc') (h : DW fl P all nx K rest i' tm' hp tc') : DW fl P all nx K (o :: rest) i tm hp tc := by
  subst ht
  subst hn
  subst htc
  subst hr
  exact D_lit _ hg (litOp_of hst hs hn' hz) h
end
end Go.AM
