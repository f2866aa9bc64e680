/-
  AM, part 42: an object that nobody writes any more is taken for a plain list wherever it is named, in slots, in structs and in other objects.
-/
import Derived.Test.YtfbmbjfcgoahfaaAM41
set_option linter.unusedVariables false
namespace Go.AM
open Go

/-- The list that an object was. -/
def sub0 (id n : Nat) (ys : List (List AVal)) : AVal → AVal
  | .ref i sz b len ex c => if i = id ∧ sz = n ∧ b = 0 ∧ len = n then .sl ys none else .ref i sz b len ex c
  | x => x

def subA (id n : Nat) (ys : List (List AVal)) : AVal → AVal
  | .ref i sz b len ex c => if i = id ∧ sz = n ∧ b = 0 ∧ len = n then .sl ys none else .ref i sz b len ex c
  | .agg cs => .agg (cs.map (sub0 id n ys))
  | x => x

def subO (id n : Nat) (ys : List (List AVal)) : Ob → Ob
  | .arr esz rows => .arr esz (rows.map fun r => r.map (sub0 id n ys))
  | .mp es => .mp es

def subH (id n : Nat) (ys : List (List AVal)) : Heap → Heap
  | [] => []
  | (i, o) :: h => if i = id then subH id n ys h else (i, subO id n ys o) :: subH id n ys h

theorem lk_subH {id n : Nat} {ys : List (List AVal)} : ∀ (h : Heap) (j : Nat), lk (subH id n ys h) j = if j = id then none else (lk h j).map (subO id n ys)
  | [], j => by simp [subH, lk]
  | (i, o) :: h, j => by
    simp only [subH]
    by_cases hi : i = id
    · subst hi
      rw [if_pos rfl, lk_subH h j]
      by_cases hj : j = i
      · simp [hj]
      · have : ¬ i = j := fun e => hj e.symm
        simp [hj, lk, this]
    · rw [if_neg hi]
      simp only [lk]
      by_cases hj : i = j
      · subst hj
        simp [hi]
      · rw [if_neg hj, if_neg hj, lk_subH h j]

section
variable {ext : Nat → Prop} {β : Nat → Option Nat} {w : World} {h : Heap} {n0 nx id n esz : Nat} {ys : List (List AVal)}

theorem subH_back {j : Nat} {o' : Ob} (e : lk (subH id n ys h) j = some o') : ¬ j = id ∧ ∃ o, lk h j = some o ∧ o' = subO id n ys o := by
  rw [lk_subH] at e
  split at e
  · cases e
  · rename_i hj
    obtain ⟨o, h1, h2⟩ := Option.map_eq_some_iff.1 e
    exact ⟨hj, o, h1, h2.symm⟩

theorem sub_step (p : Nat → Prop) : Step p (cx ext β h w) (cx ext β (subH id n ys h) w) where
  cell b o v h1 h2 := ⟨fun h3 => h1 (h3.imp (fun e => e) fun ⟨j, o', e1, e2⟩ => let ⟨_, o, e3, _⟩ := subH_back e1; ⟨j, o, e3, e2⟩), h2⟩
  shape _ _ h := h
  arr j _ esz rows hr := by
    obtain ⟨_, o, h1, h2⟩ := subH_back hr
    cases o with
    | arr e r =>
      simp only [subO] at h2
      injection h2 with h2 h3
      subst h2
      subst h3
      exact ⟨r, h1, by simp, fun _ => rfl⟩
    | mp es => cases h2
  mp j _ es hr := by
    obtain ⟨_, o, h1, h2⟩ := subH_back hr
    cases o with
    | arr e r => cases h2
    | mp es' =>
      simp only [subO] at h2
      injection h2 with h2
      subst h2
      exact ⟨_, h1, rfl⟩

variable {p : Nat → Prop} (hin : HIn ext β p h w) (hl : lk h id = some (.arr esz ys)) (hn : ys.length = n) (hz : Fz (.sl ys none))
include hin hl hn hz

theorem sub_leaf {sz b len c : Nat} {ex : Bool} {v : Value} (hv : VRel (cx ext β h w) (.ref id n 0 n ex c) v) : VRel (cx ext β (subH id n ys h) w) (.sl ys none) v := by
  have f := Frz.ref0 (h := h) (S := fun j => j = id) (id := id) (sz := n) (base := 0) (len := n) (ex := ex) (c := c) rfl hl hn (by omega)
  rw [List.drop_zero, List.take_of_length_le (by omega)] at f
  have r := Frz.rel (ext' := fun b => ext b ∨ owns β (subH id n ys h) b) hin (fun b hb => hb.imp (fun e => e) fun ⟨j, o', e1, e2⟩ => let ⟨_, o, e3, _⟩ := subH_back e1; ⟨j, o, e3, e2⟩) (fun j o b hj h1 h2 hb => by
    rcases hb with hb | ⟨k, o', e1, e2⟩
    · exact (hin.ext b hb).2 ⟨j, o, h1, h2⟩
    · obtain ⟨h3, o2, h4, _⟩ := subH_back e1
      exact h3 ((hin.inj k j o2 o b h4 h1 e2 h2).trans hj)) f v hv
  have st : Step (fun _ => False) (cx (fun b => ext b ∨ owns β (subH id n ys h) b) (fun _ => none) [] w) (cx ext β (subH id n ys h) w) :=
    ⟨fun b o v h1 h4 => ⟨fun h3 => h1 (Or.inl h3), h4⟩, fun _ _ h => h, fun _ h => h.elim, fun _ h => h.elim⟩
  exact r.step st hz

theorem sub0_rel {x : AVal} {v : Value} (hv : VRel (cx ext β h w) x v) (hx : Nm p x) : VRel (cx ext β (subH id n ys h) w) (sub0 id n ys x) v := by
  cases x with
  | ref i sz b len ex c =>
    simp only [sub0]
    split
    · rename_i he
      obtain ⟨rfl, rfl, rfl, rfl⟩ := he
      exact sub_leaf hin hl hn hz (sz := 0) (b := 0) (len := 0) hv
    · exact hv.step (sub_step p) hx
  | _ => exact hv.step (sub_step p) hx

theorem subA_rel {x : AVal} {v : Value} (hv : VRel (cx ext β h w) x v) (hx : Nm p x) : VRel (cx ext β (subH id n ys h) w) (subA id n ys x) v := by
  cases x with
  | ref i sz b len ex c => exact sub0_rel hin hl hn hz hv hx
  | agg cs =>
    simp only [subA]
    cases hv with | agg _ vs h1 h2 h3 =>
    cases hx with | agg _ hx =>
    refine .agg _ vs (by simpa using h1) h2 fun k y u hy hu => ?_
    rw [List.getElem?_map] at hy
    obtain ⟨z, hz1, rfl⟩ := Option.map_eq_some_iff.1 hy
    exact sub0_rel hin hl hn hz (h3 k z u hz1 hu) (hx z (List.mem_of_getElem? hz1))
  | _ => exact hv.step (sub_step p) hx

omit hin hl hn in
theorem sub0_nm {x : AVal} (hx : Nm p x) : Nm p (sub0 id n ys x) := by
  cases x with
  | ref i sz b len ex c =>
    simp only [sub0]
    split
    · exact Fz.nm hz p
    · exact hx
  | _ => exact hx

omit hin hl hn in
theorem subA_nm {x : AVal} (hx : Nm p x) : Nm p (subA id n ys x) := by
  cases x with
  | ref i sz b len ex c => exact sub0_nm hz hx
  | agg cs =>
    cases hx with | agg _ hx =>
    refine .agg _ fun y hy => ?_
    obtain ⟨z, h1, rfl⟩ := List.mem_map.1 hy
    exact sub0_nm hz (hx z h1)
  | _ => exact hx

theorem sub_hin : HIn ext β p (subH id n ys h) w := by
  refine ⟨fun j o' hj => ?_, fun j o' hj => ?_, fun j j' o o' b h1 h2 h3 h4 => ?_, fun b hb => ⟨(hin.ext b hb).1, fun ⟨j, o', e1, e2⟩ => let ⟨_, o, e3, _⟩ := subH_back e1; (hin.ext b hb).2 ⟨j, o, e3, e2⟩⟩⟩
  · obtain ⟨_, o, h1, rfl⟩ := subH_back hj
    have h2 := hin.ob j o h1
    have h3 := (hin.nm j o h1).2
    cases o with
    | arr e rows =>
      obtain ⟨h4, h5⟩ := h2
      refine ⟨fun r hr => ?_, ?_⟩
      · obtain ⟨r0, h6, rfl⟩ := List.mem_map.1 hr
        rw [List.length_map]
        exact h4 r0 h6
      · show match β j with | none => _ | some b => _
        have h5' : match β j with | none => rows = [] | some b => _ := h5
        cases hb : β j with
        | none =>
          simp only [hb] at h5' ⊢
          rw [h5']
          rfl
        | some b =>
          simp only [hb] at h5' ⊢
          obtain ⟨cs, e', h6, h7, h8⟩ := h5'
          refine ⟨cs, e', h6, by simpa using h7, fun i r k x hr hx => ?_⟩
          rw [List.getElem?_map] at hr
          obtain ⟨r0, h9, rfl⟩ := Option.map_eq_some_iff.1 hr
          rw [List.getElem?_map] at hx
          obtain ⟨x0, h10, rfl⟩ := Option.map_eq_some_iff.1 hx
          obtain ⟨v, h11, h12, h13⟩ := h8 i r0 k x0 h9 h10
          exact ⟨v, h11, h12, sub0_rel hin hl hn hz h13 (h3 r0 (List.mem_of_getElem? h9) x0 (List.mem_of_getElem? h10))⟩
    | mp es => exact ObIn.step (sub_step p) rfl (fun _ _ => rfl) h3 h2
  · obtain ⟨_, o, h1, rfl⟩ := subH_back hj
    have h3 := hin.nm j o h1
    refine ⟨h3.1, ?_⟩
    cases o with
    | arr e rows =>
      intro r hr x hx
      obtain ⟨r0, h6, rfl⟩ := List.mem_map.1 hr
      obtain ⟨x0, h7, rfl⟩ := List.mem_map.1 hx
      exact sub0_nm hz (h3.2 r0 h6 x0 h7)
    | mp es => exact h3.2
  · obtain ⟨_, o1, e1, _⟩ := subH_back h1
    obtain ⟨_, o2, e2, _⟩ := subH_back h2
    exact hin.inj j j' o1 o2 b e1 e2 h3 h4

end

section
variable {P : Program} {n0 : Nat} {Q : Exit → St → Prop} {k : List It} {all : Array Oper} {K : St → Prop}

theorem SIn.sub {ext : Nat → Prop} {β : Nat → Option Nat} {tm : List AVal} {h : Heap} {nx id n esz : Nat} {ys : List (List AVal)} {a : Act} {w : World} (i : SIn n0 ext β ⟨tm, h, nx⟩ a w) (hl : lk h id = some (.arr esz ys)) (hn : ys.length = n) (hz : Fz (.sl ys none)) :
    SIn n0 ext β ⟨tm.map (subA id n ys), subH id n ys h, nx⟩ a w ∧ Goes n0 ext β h w β (subH id n ys h) w := by
  refine ⟨⟨sub_hin i.heap hl hn hz, by rw [i.size]; simp, fun k y v hy hv => ?_, fun y hy => ?_, i.defers, i.low⟩,
    ⟨⟨Nat.le_refl _, fun _ _ _ => rfl, fun b _ ⟨j, o', e1, e2⟩ => let ⟨_, o, e3, _⟩ := subH_back e1; ⟨j, o, e3, e2⟩, fun _ _ h => h, rfl, rfl, rfl⟩, sub_step _⟩⟩
  · rw [List.getElem?_map] at hy
    obtain ⟨x, h1, rfl⟩ := Option.map_eq_some_iff.1 hy
    exact subA_rel i.heap hl hn hz (i.rel k x v h1 hv) (i.nm x (List.mem_of_getElem? h1))
  · obtain ⟨x, h1, rfl⟩ := List.mem_map.1 hy
    exact subA_nm hz (i.nm x h1)

/-- The object in a slot is taken for a list. -/
theorem W_frzT {α : Type} [Enc α] {c : Code} {tm tm' : List AVal} {hp hp' : Heap} {nx id n esz cc : Nat} {ex : Bool} {xs : List (List AVal)} (t : Nat) (l : List α) (ht : tm[t]? = some (.ref id n 0 n ex cc)) (hl : lk hp id = some (.arr esz xs)) (e : xs = rws l) (hn : l.length = n)
    (e1 : tm.map (subA id n (rws l)) = tm') (e2 : subH id n (rws l) hp = hp') (h : AWP P n0 c (unw P n0 k Q) ⟨tm', hp', nx⟩) : AWP P n0 c (unw P n0 k Q) ⟨tm, hp, nx⟩ := by
  subst e
  subst e1
  subst e2
  intro ext β a w i
  obtain ⟨i2, g2⟩ := i.sub hl (by rw [rws_length, hn]) (rws_fz l none)
  exact wp_mono (h ext β a w i2) fun _ _ _ p => p.after g2

theorem AO_frzT {α : Type} [Enc α] {rest : List Oper} {i : Nat} {tm tm' : List AVal} {hp hp' : Heap} {nx id n esz cc : Nat} {ex : Bool} {xs : List (List AVal)} (t : Nat) (l : List α) (ht : tm[t]? = some (.ref id n 0 n ex cc)) (hl : lk hp id = some (.arr esz xs)) (e : xs = rws l) (hn : l.length = n)
    (e1 : tm.map (subA id n (rws l)) = tm') (e2 : subH id n (rws l) hp = hp') (h : AO P n0 all rest i K ⟨tm', hp', nx⟩) : AO P n0 all rest i K ⟨tm, hp, nx⟩ := by
  subst e
  subst e1
  subst e2
  intro hd ext β a w hs Q hq
  obtain ⟨i2, g2⟩ := SIn.sub hs hl (by rw [rws_length, hn]) (rws_fz l none)
  exact h hd ext β a w i2 Q fun β' s' a' w' h1 h2 h3 => hq β' s' a' w' h1 h2 (g2.trans h3)

/-- Rows whose cells are only handed on stay as they are. -/
theorem rws_sub {α : Type} [Enc α] {id n : Nat} {ys : List (List AVal)} (l : List α) : ((rws l).map fun r => r.map (sub0 id n ys)) = rws l := by
  have h0 : ∀ r, r ∈ rws l → r.map (sub0 id n ys) = r := fun r hr => by
    have : ∀ x, x ∈ r → sub0 id n ys x = x := fun x hx => by
      have hz := rws_mem l r hr x hx
      cases x with
      | ref i sz b len ex c => cases hz with | ref _ _ _ _ _ _ hf => exact hf.elim
      | _ => rfl
    exact (List.map_congr_left (g := fun x => x) this).trans (List.map_id' r)
  exact (List.map_congr_left (g := fun x => x) h0).trans (List.map_id' _)

/-- Several ways come together again: what is known behind a piece of code. -/
theorem W_cutM {γ : Type} {c : Code} {tm : List AVal} {hp : Heap} {nx : Nat} (mask : γ → List (Option AVal)) (J : γ → Prop) (h : AWP P n0 c (unw P n0 [] fun e s => e = .normal ∧ ∃ g, J g ∧ Weak n0 s ⟨msk (mask g) tm, hp, nx⟩) ⟨tm, hp, nx⟩)
    (after : ∀ g, J g → unw P n0 k Q .normal ⟨msk (mask g) tm, hp, nx⟩) : AWP P n0 c (unw P n0 k Q) ⟨tm, hp, nx⟩ := by
  intro ext β a w i
  refine wp_mono (h ext β a w i) ?_
  rintro e a2 w2 ⟨β2, s2, ⟨rfl, g, hg, hw⟩, i2, g2⟩
  obtain ⟨i3, g3⟩ := i2.weak hw
  exact ⟨β2, _, after g hg, i3, g2.trans g3⟩

theorem N_cut {s : St} {γ : Type} {G : γ → St} {J : γ → Prop} (g : γ) (h : J g) (hw : Weak n0 s (G g)) : unw P n0 [] (fun e s => e = .normal ∧ ∃ g, J g ∧ Weak n0 s (G g)) .normal s := ⟨rfl, g, h, hw⟩

theorem W_regNe {s : St} {id : Nat} {ops : List Oper} (m : Nat) (hm : ¬ id = m) (h : ∀ K : St → Prop, (∀ s', unw P n0 k Q .normal s' → K s') → AO P n0 ops.toArray ops 0 K s) :
    AWP P n0 (.region id ops.toArray false) (unw P n0 k Q) s := W_reg h

theorem W_drwNe {tm : List AVal} {hp : Heap} {nx : Nat} {id : Nat} {ops : List Oper} (m : Nat) (hn : ¬ id = m) (hm : P.follows .mixedOrders = true) (hc : chk ops.toArray (preds ops.toArray) = true)
    (h : ∀ K : St → Prop, (∀ s', unw P n0 k Q .normal s' → K s') → DW true P ops.toArray nx K ops 0 tm hp []) : AWP P n0 (.region id ops.toArray true) (unw P n0 k Q) ⟨tm, hp, nx⟩ := W_drw hm hc h

theorem W_drwRNe {tm : List AVal} {hp : Heap} {nx : Nat} {id : Nat} {ops : List Oper} (m : Nat) (hn : ¬ id = m) (hr : ops.all rdOp = true) (hm : P.follows .mixedOrders = true) (hc : chk ops.toArray (preds ops.toArray) = true)
    (h : ∀ K : St → Prop, (∀ s', unw P n0 k Q .normal s' → K s') → DV P ops.toArray nx K ops 0 tm hp) : AWP P n0 (.region id ops.toArray true) (unw P n0 k Q) ⟨tm, hp, nx⟩ := W_drwR hr hm hc h

theorem frT {hp h2 : Heap} {xs ys : List AVal} (f : FrzL hp h2 xs ys := by
    first
      | (repeat' first
          | exact FrzL.nil
          | apply FrzL.keep
          | apply FrzL.forget
          | (refine FrzL.fn1 rfl rfl ?_)
          | (refine FrzL.whole (lk_head _ _ _) rfl ?_ ?_)
          | (refine FrzL.whole rfl rfl ?_ ?_)
          | (refine FrzL.ofFrz ?_ ?_)
          | (refine .aggC ?_)
          | (refine .cons ?_ ?_)
          | exact .refl _
          | exact .nil
          | exact .slR (.refl _)
          | exact .refE rfl (by simp only [go_sem]; exact rfl) (by first | rfl | (simp; done) | (simp [rws, Enc.enc]; done)) (by first | rfl | simp [rws_length])
          | rfl
          | (simp only [go_sem]; done)
         done)
      | fail) : FrzL hp h2 xs ys := f

theorem subT {id n : Nat} {ys : List (List AVal)} {tm tm' : List AVal} (e : tm.map (subA id n ys) = tm' := by (simp (disch := omega) only [subA, sub0, go_sem, false_and, true_and, if_true, if_false]; exact rfl)) : tm.map (subA id n ys) = tm' := e
theorem subU {id n : Nat} {ys : List (List AVal)} {hp hp' : Heap} (e : subH id n ys hp = hp' := by (simp only [subH, subO, sub0, rws_sub, go_sem, false_and, true_and, if_true, if_false]; exact rfl)) : subH id n ys hp = hp' := e


end
end Go.AM
