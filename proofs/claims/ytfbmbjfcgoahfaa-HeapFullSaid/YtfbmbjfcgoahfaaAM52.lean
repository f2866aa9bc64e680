/-
  AM, part 52: such calls in rows of operations, in the order of the text or in a drawn one.
-/
import Derived.Test.YtfbmbjfcgoahfaaAM51
set_option linter.unusedVariables false
namespace Go.AM
open Go

/-- Some objects are there. -/
def allIn (hp : Heap) : Heap → Prop
  | [] => True
  | (i, o) :: l => lk hp i = some o ∧ allIn hp l

theorem allIn_mem {hp : Heap} : ∀ {L : Heap}, allIn hp L → ∀ e, e ∈ L → lk hp e.1 = some e.2
  | [], _, e, he => by cases he
  | (i, o) :: L, h, e, he => by
    rcases List.mem_cons.1 he with rfl | he
    · exact h.1
    · exact allIn_mem h.2 e he

/-- A function is called that sets some objects anew, whatever else there is. -/
structure FCall (P : Program) (g : FuncId) (args : List AVal) (L : Heap) (r : AVal) (L' : Heap) : Prop where
  callable : Callable P g
  keys : ∀ e, e ∈ L' → e.1 ∈ L.map (·.1)
  run : ∀ (ext : Nat → Prop) (β : Nat → Option Nat) (p : Nat → Prop) (h : Heap) (w : World) (vs : Array Value), HIn ext β p h w → (∀ e, e ∈ L → lk h e.1 = some e.2) → vs.size = args.length →
    (∀ (k : Nat) x v, args[k]? = some x → vs[k]? = some v → VRel (cx ext β h w) x v) →
    Calls P g vs w fun e w' => ∃ v β', e = .returned v ∧ HIn ext β' p (upds h L') w' ∧ VRel (cx ext β' (upds h L') w') r v ∧ Nm p r ∧ Evo (owns β h) w (owns β' (upds h L')) w' ∧ Step p (cx ext β h w) (cx ext β' (upds h L') w')

/-- A function is called that makes new objects; 'N': by their numbers from 0 on. -/
structure NCall (P : Program) (g : FuncId) (args : List AVal) (r : AVal) (N : Heap) (n : Nat) : Prop where
  hc : HCall P g args [] 0 fun r' h _ => r' = r ∧ h = N
  nd : (N.map (·.1)).Nodup
  lt : ∀ e, e ∈ N → e.1 < n
  ob : ∀ e, e ∈ N → LfO (fun i => i ∈ N.map (·.1)) e.2
  res : LfA (fun i => i ∈ N.map (·.1)) r
  fz : ∀ x, x ∈ args → Fz x

theorem renA_fz {f : Nat → Nat} {x : AVal} (h : Fz x) : renA f x = x := by
  have hm : ∀ cs : List AVal, (∀ c, c ∈ cs → Fz c) → cs.map (ren0 f) = cs := fun cs h => by
    conv => rhs; rw [← List.map_id cs]
    exact List.map_congr_left fun c hc => ren0_fz (h c hc)
  cases x with
  | agg cs => cases h with | agg _ h => simp only [renA]; rw [hm cs h]
  | tuple cs => cases h with | tuple _ h => simp only [renA]; rw [hm cs h]
  | _ => exact ren0_fz (f := f) h

theorem renH_keys (f : Nat → Nat) : ∀ h : Heap, (renH f h).map (·.1) = (h.map (·.1)).map f
  | [] => rfl
  | (i, o) :: h => by simp only [renH, List.map_cons]; rw [renH_keys f h]

theorem FCall.of {P : Program} {g : FuncId} {args0 args : List AVal} {L0 L0' L L' : Heap} {nx : Nat} {r0 r : AVal} {f : Nat → Nat} (hc : HCall P g args0 L0 nx fun r h _ => r = r0 ∧ h = L0') (hU : L0'.map (·.1) = L0.map (·.1)) (hnd : (L0.map (·.1)).Nodup)
    (hlt : ∀ e, e ∈ L0 → e.1 < nx) (hinj : ∀ i j, i ∈ L0.map (·.1) → j ∈ L0.map (·.1) → f i = f j → i = j)
    (hLf : ∀ e, e ∈ L0 → LfO (fun i => i ∈ L0.map (·.1)) e.2) (hLf' : ∀ e, e ∈ L0' → LfO (fun i => i ∈ L0.map (·.1)) e.2) (hr : LfA (fun i => i ∈ L0.map (·.1)) r0) (ha : ∀ x, x ∈ args0 → LfA (fun i => i ∈ L0.map (·.1)) x)
    (ea : args0.map (renA f) = args) (eL : renH f L0 = L) (eL' : renH f L0' = L') (er : renA f r0 = r) : FCall P g args L r L' := by
  subst ea eL eL' er
  refine ⟨hc.callable, fun e he => ?_, fun ext β p h w vs hin hL hsz hrel => ?_⟩
  · rw [renH_keys, ← hU, ← renH_keys]
    exact List.mem_map.2 ⟨e, he, rfl⟩
  · have hL2 : ∀ e, e ∈ L0 → lk h (f e.1) = some (renO f e.2) := fun e he => by
      have : (f e.1, renO f e.2) ∈ renH f L0 := by
        clear hL hLf hLf' hr ha hin hlt hnd hU hc hinj hrel
        induction L0 with
        | nil => cases he
        | cons a l ih =>
          obtain ⟨i, o⟩ := a
          simp only [renH]
          rcases List.mem_cons.1 he with rfl | he
          · exact List.mem_cons_self ..
          · exact List.mem_cons_of_mem _ (ih he)
      exact hL _ this
    have := HCall.lift (N := []) (U := L0') (f := f) hc hU (by simpa [hU] using hnd) hlt (by simpa [hU] using hinj) hLf (by simpa [hU] using hLf') (by simpa [hU] using hr) ha ext β p h w vs hin hL2 (fun e he => by cases he) (by simpa using hsz) hrel
    refine this.mono ?_
    rintro e w' ⟨v, β', h1, h2, h3, h4, h5, h6⟩
    have hq : ∀ j, (p j ∨ ∃ e, e ∈ ([] : Heap) ∧ j = f e.1) → p j := fun j hj => hj.elim (fun h => h) fun ⟨e, he, _⟩ => nomatch he
    exact ⟨v, β', h1, HIn.mono hq h2, h3, Nm.mono hq h4, h5, h6⟩

section
variable {fl : Bool} {P : Program} {n0 : Nat} {all : Array Oper} {K : St → Prop}

theorem EffOp.of {tm : List AVal} {o : Oper} {c : Call} {g : FuncId} {args : List AVal} {L L' : Heap} {r : AVal} (ho : o.op = .call c) (ht : target tm c = some (g, args)) (hc : FCall P g args L r L') : EffOp P tm o r L L' := by
  intro n0 ext β p tmps h a w hs hev hL K Q hk
  have ht2 : target tmps c = some (g, args) := (target_agree ho hev).trans ht
  obtain ⟨vs, hrun, hsz, hrel⟩ := target_ok hs ho ht2 hc.callable
  unfold Oper.wp
  rw [hrun, Oper.upon_enter]
  refine (hc.run ext β p h w vs hs.heap hL hsz hrel).mono ?_
  rintro e w' ⟨v, β', rfl, h1, h2, h3, h4, h5⟩
  exact hk v w' β' h1 h2 h3 h4 h5

theorem SIn.le {ext : Nat → Prop} {β : Nat → Option Nat} {s : St} {a : Act} {w : World} (i : SIn n0 ext β s a w) : n0 ≤ s.nx := by
  rcases Nat.lt_or_ge s.nx n0 with h8 | h8
  · exact absurd (i.low s.nx h8) (Nat.lt_irrefl _)
  · exact h8

theorem AO_fcallE {o : Oper} {rest : List Oper} {i nx nx' : Nat} {tm tm' : List AVal} {hp hp' : Heap} {c : Call} {g : FuncId} {args : List AVal} {r : AVal} {L L' : Heap} (hg : guardA all tm o = some true) (ho : o.op = .call c) (ht : target tm c = some (g, args))
    (hc : FCall P g args L r L') (hL : allIn hp L) (hh : upds hp L' = hp') (htm : putT tm o.dst r = tm') (hn : nx + 1 = nx') (h : AO P n0 all rest (i + 1) K ⟨tm', hp', nx'⟩) : AO P n0 all (o :: rest) i K ⟨tm, hp, nx⟩ := by
  subst hh htm hn
  refine AO_cons fun ext β a w hs hoo Q' next hnext => ?_
  rw [guard_ok hs hg, if_pos rfl]
  refine .inl ?_
  refine EffOp.of ho ht hc n0 ext β _ tm hp a w hs (fun _ _ => rfl) (allIn_mem hL) _ _ fun v w' β' h1 h2 h3 h4 h5 => ?_
  have hlt : ∀ j, Lt nx j → Lt (nx + 1) j := fun j hj => Nat.lt_succ_of_lt hj
  exact hnext β' _ _ _ h (hs.put (h1.mono hlt) hlt h5 h2 (h3.mono hlt) o.dst) ⟨h4, h5.weaken fun j hj => Nat.lt_of_lt_of_le hj hs.le⟩

theorem D_fcallE {nx : Nat} {o : Oper} {rest : List Oper} {i i' : Nat} {tm tm' : List AVal} {hp hp' : Heap} {tc tc' : List (Bool × List Nat)} {c : Call} {g : FuncId} {args : List AVal} {r : AVal} {L L' : Heap} (hg : guardA all tm o = some true) (ho : o.op = .call c) (ht : target tm c = some (g, args))
    (hc : FCall P g args L r L') (hL : allIn hp L) (hh : upds hp L' = hp') (htm : putT tm o.dst r = tm') (hn : i + 1 = i') (htc : tc ++ [(true, L.map (·.1))] = tc') (h : DW false P all nx K rest i' tm' hp' tc') : DW false P all nx K (o :: rest) i tm hp tc := by
  subst hh htm hn htc
  exact fun hd => let ⟨ho', hd'⟩ := drop_cons hd; .eff i tm hp tc o r L L' ho' hg rfl hc.keys (allIn_mem hL) (EffOp.of ho ht hc) (h hd')

theorem AO_bornE {o : Oper} {rest : List Oper} {i nx nx' n : Nat} {tm tm' : List AVal} {hp hp' N : Heap} {c : Call} {g : FuncId} {args : List AVal} {r y : AVal} (hg : guardA all tm o = some true) (ho : o.op = .call c) (ht : target tm c = some (g, args))
    (hc : NCall P g args r N n) (hy : renA (fun i => nx + i) r = y) (hh : renH (fun i => nx + i) N ++ hp = hp') (htm : putT tm o.dst y = tm') (hn : nx + n = nx') (h : AO P n0 all rest (i + 1) K ⟨tm', hp', nx'⟩) : AO P n0 all (o :: rest) i K ⟨tm, hp, nx⟩ := by
  subst hh htm hn hy
  refine AO_cons fun ext β a w hs hoo Q' next hnext => ?_
  rw [guard_ok hs hg, if_pos rfl]
  refine .inl ?_
  obtain ⟨vs, hrun, hsz, hrel⟩ := target_ok hs ho ht hc.hc.callable
  unfold Oper.wp
  rw [hrun, Oper.upon_enter]
  have hargs : args.map (renA fun i => nx + i) = args := by
    conv => rhs; rw [← List.map_id args]
    exact List.map_congr_left fun x hx => renA_fz (hc.fz x hx)
  have := HCall.lift (N := N) (U := []) (L := []) (f := fun i => nx + i) (hc.hc.mono fun _ _ _ ⟨h1, h2⟩ => ⟨h1, by simpa using h2⟩) rfl (by simpa using hc.nd) (fun e he => by cases he) (fun i j _ _ e => by simpa using e) (fun e he => by cases he)
    (by simpa using hc.ob) (by simpa using hc.res) (fun x hx => .leaf x (.fz x (hc.fz x hx))) ext β (Lt nx) hp w vs hs.heap (fun e he => by cases he) (fun e he h => by simp only [Lt] at h; omega) hsz (by rw [hargs]; exact hrel)
  refine this.mono ?_
  rintro e w' ⟨v, β', rfl, h2, h3, h4, h5, h6⟩
  have hq : ∀ j, (Lt nx j ∨ ∃ e, e ∈ N ∧ j = nx + e.1) → Lt (nx + n) j := fun j hj => by
    rcases hj with hj | ⟨e, he, rfl⟩
    · simp only [Lt] at *; omega
    · have := hc.lt e he
      simp only [Lt]
      omega
  exact hnext β' _ _ _ h (hs.put (HIn.mono hq h2) (fun j hj => hq j (.inl hj)) h6 h3 (h4.mono hq) o.dst) ⟨h5, h6.weaken fun j hj => Nat.lt_of_lt_of_le hj hs.le⟩

end

/-! ### What is named -/
theorem lf_ref (S : Nat → Prop) (id sz b len : Nat) (ex : Bool) (c : Nat) : Lf S (.ref id sz b len ex c) ↔ S id := ⟨fun h => by
  cases h with
  | ref _ _ _ _ _ _ h => exact h
  | fz _ h => cases h with | ref _ _ _ _ _ _ h => exact h.elim, fun h => .ref _ _ _ _ _ _ h⟩
theorem lf_ptr (S : Nat → Prop) (id sz r c : Nat) : Lf S (.ptr id sz r c) ↔ S id := ⟨fun h => by
  cases h with
  | ptr _ _ _ _ h => exact h
  | fz _ h => cases h with | ptr _ _ _ _ h => exact h.elim, fun h => .ptr _ _ _ _ h⟩
theorem lf_mapv (S : Nat → Prop) (id : Nat) : Lf S (.mapv id) ↔ S id := ⟨fun h => by
  cases h with
  | mapv _ h => exact h
  | fz _ h => cases h with | mapv _ h => exact h.elim, fun h => .mapv _ h⟩
theorem lf_int (S : Nat → Prop) (k : IntKind) (n : Int) : Lf S (.int k n) ↔ True := ⟨fun _ => trivial, fun _ => .fz _ (.int k n)⟩
theorem lf_bool (S : Nat → Prop) (b : Bool) : Lf S (.bool b) ↔ True := ⟨fun _ => trivial, fun _ => .fz _ (.bool b)⟩
theorem lf_str (S : Nat → Prop) (s : ByteArray) : Lf S (.str s) ↔ True := ⟨fun _ => trivial, fun _ => .fz _ (.str s)⟩
theorem lf_nilp (S : Nat → Prop) : Lf S .nilp ↔ True := ⟨fun _ => trivial, fun _ => .fz _ .nilp⟩
theorem lf_rws {α : Type} [Enc α] (S : Nat → Prop) (l : List α) (lim : Option Nat) : Lf S (.sl (rws l) lim) ↔ True := ⟨fun _ => trivial, fun _ => .fz _ (.sl _ _ (rws_mem l))⟩
theorem lf_nil (S : Nat → Prop) (lim : Option Nat) : Lf S (.sl [] lim) ↔ True := ⟨fun _ => trivial, fun _ => .fz _ (.sl _ _ fun r hr => by cases hr)⟩
theorem lf_aggE {α : Type} [Enc α] (S : Nat → Prop) (x : α) : Lf S (.agg (Enc.enc x)) ↔ True := ⟨fun _ => trivial, fun _ => .fz _ (.agg _ fun y hy => Enc.fz x y hy)⟩
theorem lf_enc {α : Type} [Enc α] (S : Nat → Prop) (x : α) : (∀ y, y ∈ Enc.enc x → Lf S y) ↔ True := ⟨fun _ => trivial, fun _ y hy => .fz _ (Enc.fz x y hy)⟩
theorem lfO_rws {α : Type} [Enc α] (S : Nat → Prop) (k : Nat) (l : List α) : LfO S (.arr k (rws l)) ↔ True := ⟨fun _ => trivial, fun _ r hr x hx => .fz _ (rws_mem l r hr x hx)⟩
theorem lfO_ri (S : Nat → Prop) (k : Nat) (l : List Int) : LfO S (.arr k (ri l)) ↔ True := ⟨fun _ => trivial, fun _ r hr x hx => by
  obtain ⟨n, _, rfl⟩ := List.mem_map.1 hr
  simp at hx
  subst hx
  exact .fz _ (.int _ _)⟩
theorem lfO_row (S : Nat → Prop) (k : Nat) (cs : List AVal) : LfO S (.arr k [cs]) ↔ ∀ c, c ∈ cs → Lf S c := by simp [LfO]
theorem lfO_mpe (S : Nat → Prop) (M : IM) (c : Nat) : LfO S (.mp ⟨mpe M, c⟩) ↔ True := ⟨fun _ => trivial, fun _ e he => by
  simp only [mpe, List.mem_map] at he
  obtain ⟨q, _, rfl⟩ := he
  exact ⟨.int _ _, .int _ _⟩⟩
theorem lfA_leaf {S : Nat → Prop} {x : AVal} (h : Lf S x) : LfA S x := .leaf x h
theorem lfA_tup (S : Nat → Prop) (cs : List AVal) (h : ∀ c, c ∈ cs → Lf S c) : LfA S (.tuple cs) := .tuple cs h

theorem ren_rws {α : Type} [Enc α] (f : Nat → Nat) (l : List α) : (rws l).map (fun r => r.map (ren0 f)) = rws l := by
  conv => rhs; rw [← List.map_id (rws l)]
  refine List.map_congr_left fun r hr => ?_
  conv => rhs; rw [id, ← List.map_id r]
  exact List.map_congr_left fun x hx => ren0_fz (rws_mem l r hr x hx)
theorem ren_ri (f : Nat → Nat) (l : List Int) : (ri l).map (fun r => r.map (ren0 f)) = ri l := by
  simp [ri, ren0]
theorem ren_enc {α : Type} [Enc α] (f : Nat → Nat) (x : α) : (Enc.enc x).map (ren0 f) = Enc.enc x := by
  conv => rhs; rw [← List.map_id (Enc.enc x)]
  exact List.map_congr_left fun y hy => ren0_fz (Enc.fz x y hy)

section
variable {P : Program}
theorem retF_of {rs : List ResultVar} {s : St} {xs : List AVal} {r1 : AVal} {h1 : Heap} (h : resAs P s rs = some xs) (h2 : packA xs = r1) (h3 : ∀ id o, lk h1 id = some o → lk s.h id = some o) : retH P rs (fun r h _ => r = r1 ∧ h = h1) .ret s := ⟨xs, h1, h, h3, h2, rfl⟩
theorem retFN_of {rs : List ResultVar} {s : St} {xs : List AVal} {r1 : AVal} {h1 : Heap} (h : resAs P s rs = some xs) (h2 : packA xs = r1) (h3 : ∀ id o, lk h1 id = some o → lk s.h id = some o) : retH P rs (fun r h _ => r = r1 ∧ h = h1) .normal s := ⟨xs, h1, h, h3, h2, rfl⟩
end
section
variable {P : Program}
theorem Can.unbornO {n0 : Nat} {s : St} {tm tm' : List AVal} {hp hp' : Heap} {nx nx' : Nat} (id esz esz0 : Nat) (xs ys : List (List AVal)) (hl : lk hp id = some (.arr esz0 xs)) (hr : NewR nx xs ys) (ht : NewL nx tm tm') (e : (nx, Ob.arr esz []) :: hset hp id (.arr esz0 ys) = hp') (hn : nx + 1 = nx') (h : Can n0 ⟨tm', hp', nx'⟩ s) : Can n0 ⟨tm, hp, nx⟩ s := by
  subst e hn
  intro ext β a w i
  obtain ⟨β1, i1, g1⟩ := i.unbornO (esz := esz) hl hr ht
  obtain ⟨β2, i2, g2⟩ := h ext β1 a w i1
  exact ⟨β2, i2, g1.trans g2⟩

/-- As retH; the state at the end may be taken for another one. -/
def retC (P : Program) (n0 : Nat) (rs : List ResultVar) (Q : AVal → Heap → Nat → Prop) (e : Exit) (s : St) : Prop := ∃ s', Can n0 s s' ∧ retH P rs Q e s'

theorem HCall_introC {g : FuncId} {args : List AVal} {h : Heap} {nx : Nat} {Q : AVal → Heap → Nat → Prop} {fn : Func} {c : Code} (hf : P.funcs[g]? = some fn) (hb : fn.body = some c) (hname : (fn.name == "runtime.NumGoroutine") = false)
    (hw : AWP P nx c (retC P nx fn.results.toList Q) ⟨args ++ List.replicate (fn.ntmps - args.length) .junk, h, nx⟩) : HCall P g args h nx Q := by
  refine HCall_intro hf hb hname fun ext β a w i => wp_mono (hw ext β a w i) ?_
  rintro e a2 w2 ⟨β2, s2, ⟨s3, hc, q⟩, i2, g2⟩
  obtain ⟨β3, i3, g3⟩ := hc ext β2 a2 w2 i2
  exact ⟨β3, s3, q, i3, g2.trans g3⟩
theorem Can.refl {n0 : Nat} (s : St) : Can n0 s s := fun ext β a w i => ⟨β, i, Goes.refl n0 ext β s.h w⟩
end
theorem Zrf {p : Prop} (h : p := by
    first
      | ((with_reducible first | apply retF_of | (refine N_nil ?_; apply retFN_of)); (case h => (simp (disch := omega) only [go_sem]; exact rfl)); (case h2 => first | exact rfl | (simp (disch := omega) only [go_sem]; exact rfl)); (case h3 => exact wkH))
      | fail) : p := h

/-- Three numbers. -/
def num3 (a b c : Nat) : Nat → Nat
  | 0 => a
  | 1 => b
  | _ => c
def num4 (a b c d : Nat) : Nat → Nat
  | 0 => a
  | 1 => b
  | 2 => c
  | _ => d

theorem Zfc {p q : Prop} {A : Prop} (c : A) (hq : q) (h : A → Held q → p := by
    intro c h
    first
      | ((with_reducible first | apply AO_fcallE | apply D_fcallE); (case hg => exact gT); (case ho => exact rfl); (case ht => exact rfl); (case hc => exact c); (case hL => first | (simp (disch := omega) only [allIn, go_sem]; done) | fail); (case hh => (simp (disch := omega) only [upds, go_sem]; exact rfl)); (case htm => exact pT); (case hn => exact nT); (try case htc => exact rfl); (case h => exact h.out))
      | fail) : p := h c ⟨hq⟩
theorem Zbn {p q : Prop} {A : Prop} (c : A) (hq : q) (h : A → Held q → p := by
    intro c h
    first
      | ((with_reducible apply AO_bornE); (case hg => exact gT); (case ho => exact rfl); (case ht => exact rfl); (case hc => exact c); (case hy => first | (simp (disch := omega) only [renA, ren0, List.map_cons, List.map_nil, go_sem]; exact rfl) | exact rfl); (case hh => (simp (disch := omega) only [renH, renO, ren0, ren_rws, ren_ri, List.map_cons, List.map_nil, List.cons_append, List.nil_append, go_sem]; exact rfl)); (case htm => exact pT); (case hn => exact nT); (case h => exact h.out))
      | fail) : p := h c ⟨hq⟩
end Go.AM
