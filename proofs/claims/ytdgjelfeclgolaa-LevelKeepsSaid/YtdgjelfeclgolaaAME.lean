/-
  AM, merged: 44 45 46 47 48.
-/
import Derived.Test.YtdgjelfeclgolaaAMD
import Derived.KernelRfl

section
set_option linter.unusedVariables false
namespace Go.AM
open Go

section
variable {α : Type}

/-- The first place at which something holds; -1: nowhere. -/
def idx (p : α → Bool) (l : List α) : Int := match l.findIdx? p with | some i => i | none => -1

theorem some_of_lt {l : List α} {i : Nat} (h : i < l.length) : ∃ x, l[i]? = some x := ⟨l[i], List.getElem?_eq_getElem h⟩

theorem idx_at {p : α → Bool} {l : List α} {i : Nat} {x : α} (hx : l[i]? = some x) (hp : p x = true) (hno : ∀ k y, k < i → l[k]? = some y → p y = false) : idx p l = i := by
  obtain ⟨hi, hx'⟩ := List.getElem?_eq_some_iff.1 hx
  have : l.findIdx? p = some i := by
    rw [List.findIdx?_eq_some_iff_getElem]
    refine ⟨hi, by rw [hx']; exact hp, fun j hj => ?_⟩
    have := hno j l[j] hj (List.getElem?_eq_getElem (by omega))
    simp [this]
  rw [idx, this]

theorem idx_none {p : α → Bool} {l : List α} (hno : ∀ k y, k < l.length → l[k]? = some y → p y = false) : idx p l = -1 := by
  have : l.findIdx? p = none := by
    rw [List.findIdx?_eq_none_iff]
    intro x hx
    obtain ⟨k, hk⟩ := List.getElem?_of_mem hx
    exact hno k x (List.getElem?_eq_some_iff.1 hk).1 hk
  rw [idx, this]

/-- Found, or nowhere. -/
theorem idx_cases (p : α → Bool) (l : List α) : (∃ i x, idx p l = (i : Nat) ∧ i < l.length ∧ l[i]? = some x ∧ p x = true ∧ l.any p = true ∧ ∀ k y, k < i → l[k]? = some y → p y = false) ∨ (idx p l = -1 ∧ l.any p = false ∧ ∀ x, x ∈ l → p x = false) := by
  unfold idx
  cases h : l.findIdx? p with
  | some i =>
    rw [List.findIdx?_eq_some_iff_getElem] at h
    obtain ⟨hi, h1, h2⟩ := h
    refine .inl ⟨i, l[i], rfl, hi, List.getElem?_eq_getElem hi, h1, List.any_eq_true.2 ⟨_, List.getElem_mem hi, h1⟩, fun k y hk hy => ?_⟩
    obtain ⟨hk', rfl⟩ := List.getElem?_eq_some_iff.1 hy
    have := h2 k hk
    simpa using this
  | none =>
    rw [List.findIdx?_eq_none_iff] at h
    exact .inr ⟨rfl, List.any_eq_false.2 fun x hx => by simp [h x hx], h⟩

theorem no_step {p : α → Bool} {l : List α} {i : Nat} {x : α} (hx : l[i]? = some x) (hp : p x = false) (hno : ∀ k y, k < i → l[k]? = some y → p y = false) : ∀ k y, k < i + 1 → l[k]? = some y → p y = false := fun k y hk hy => by
  rcases Nat.lt_or_ge k i with h | h
  · exact hno k y h hy
  · obtain rfl : k = i := by omega
    rw [hx] at hy; injection hy with hy; subst hy; exact hp

theorem idx_ge (p : α → Bool) (l : List α) : decide (idx p l ≥ 0) = l.any p := by
  rcases idx_cases p l with ⟨i, x, h1, _, _, _, h2, _⟩ | ⟨h1, h2, _⟩
  · rw [h1, h2]; exact decide_eq_true (show (0 : Int) ≤ (i : Int) by omega)
  · rw [h1, h2]; exact decide_eq_false (show ¬ (0 : Int) ≤ -1 by omega)

theorem any_at {p : α → Bool} {l : List α} {i : Nat} {x : α} (hx : l[i]? = some x) (hp : p x = true) : l.any p = true := List.any_eq_true.2 ⟨x, List.mem_of_getElem? hx, hp⟩

theorem any_none {p : α → Bool} {l : List α} (hno : ∀ k y, k < l.length → l[k]? = some y → p y = false) : l.any p = false := by
  rw [List.any_eq_false]
  intro x hx
  obtain ⟨k, hk⟩ := List.getElem?_of_mem hx
  simp [hno k x (List.getElem?_eq_some_iff.1 hk).1 hk]

theorem all_none {p : α → Bool} {l : List α} (h : ∀ k y, k < l.length → l[k]? = some y → p y = true) : l.all p = true := by
  rw [List.all_eq_true]
  intro x hx
  obtain ⟨k, hk⟩ := List.getElem?_of_mem hx
  exact h k x (List.getElem?_eq_some_iff.1 hk).1 hk

theorem all_at {p : α → Bool} {l : List α} {i : Nat} {x : α} (hx : l[i]? = some x) (hp : p x = false) : l.all p = false := List.all_eq_false.2 ⟨x, List.mem_of_getElem? hx, by simp [hp]⟩

theorem yes_step {p : α → Bool} {l : List α} {i : Nat} {x : α} (hx : l[i]? = some x) (hp : p x = true) (hno : ∀ k y, k < i → l[k]? = some y → p y = true) : ∀ k y, k < i + 1 → l[k]? = some y → p y = true := fun k y hk hy => by
  rcases Nat.lt_or_ge k i with h | h
  · exact hno k y h hy
  · obtain rfl : k = i := by omega
    rw [hx] at hy; injection hy with hy; subst hy; exact hp

theorem sum_take {f : α → Int} {l : List α} {i : Nat} {x : α} (h : l[i]? = some x) : ((l.take (i + 1)).map f).sum = ((l.take i).map f).sum + f x := by
  rw [List.take_add_one, h]
  simp

theorem take_snoc {l : List α} {i : Nat} {x : α} (h : l[i]? = some x) : l.take (i + 1) = l.take i ++ [x] := by
  rw [List.take_add_one, h]
  rfl

theorem any_drop {p : α → Bool} {l : List α} {i : Nat} {x : α} (h : l[i]? = some x) : (l.drop i).any p = (p x || (l.drop (i + 1)).any p) := by
  obtain ⟨hi, rfl⟩ := List.getElem?_eq_some_iff.1 h
  rw [List.drop_eq_getElem_cons hi, List.any_cons]

theorem rws_back [Enc α] {l : List α} {i : Nat} {x : α} (h : l[i]? = some x) : rws (l.drop (i + 1)).reverse ++ [Enc.enc x] = rws (l.drop i).reverse := by
  obtain ⟨hi, rfl⟩ := List.getElem?_eq_some_iff.1 h
  rw [List.drop_eq_getElem_cons hi, List.reverse_cons, rws_snoc]

end

/-- The spare room of the list in one slot is forgotten. -/
theorem W_forgetT {β : Type} [Enc β] {P : Program} {n0 : Nat} {Q : Exit → St → Prop} {k : List It} {c : Code} {tm tm' : List AVal} {hp : Heap} {nx : Nat} {xs : List (List AVal)} {lim : Option Nat} (t : Nat) (l : List β) (ht : tm[t]? = some (.sl xs lim)) (e : xs = rws l) (e1 : tm.set t (.sl (rws l) none) = tm')
    (h : AWP P n0 c (unw P n0 k Q) ⟨tm', hp, nx⟩) : AWP P n0 c (unw P n0 k Q) ⟨tm, hp, nx⟩ := by
  subst e
  subst e1
  have all : ∀ xs : List AVal, FzL hp hp xs xs := fun xs => by
    induction xs with
    | nil => exact FzL.nil
    | cons x xs ih => exact FzL.keep ih
  have at_ : ∀ (xs : List AVal) (t : Nat), xs[t]? = some (.sl (rws l) lim) → FzL hp hp xs (xs.set t (.sl (rws l) none)) := fun xs => by
    induction xs with
    | nil => intro t h; simp at h
    | cons x xs ih =>
      intro t h
      cases t with
      | zero => simp at h; subst h; exact FzL.forget (rws_fz l none) (all xs)
      | succ t => exact FzL.keep (ih t (by simpa using h))
  exact W_freeze (fun _ _ h => h) (at_ tm t ht) h

theorem rd_boolT {P : Program} {t : TypeId} (ht : P.underlying t = some .bool) : RdC P t (fun ys => ∃ b, ys = [.bool b] ∧ True) := (rd_bool ht).mono fun _ ⟨b, h⟩ => ⟨b, h, trivial⟩

end Go.AM
end

section
set_option linter.unusedVariables false
set_option linter.unusedSimpArgs false
namespace Go.AM
open Go

section
variable {P : Program} {n0 : Nat} {all : Array Oper} {K : St → Prop}

/-- 'clear' of a slice of an object. -/
theorem AO_clearE {o : Oper} {rest : List Oper} {i nx nx' : Nat} {tm : List AVal} {hp hp' : Heap} {c : Call} {t e : TypeId} {x : Operand} {id sz base len cc esz n m : Nat} {ex : Bool} {rows : List (List AVal)} {zz : AVal} {te : TI} {z : List AVal}
    (hg : guardA all tm o = some true) (ho : o.op = .call c) (hcb : c.callee = .builtin .clear) (hct : c.argTypes = #[t]) (hca : c.args = #[x]) (hx : ev tm x = .ref id sz base len ex cc) (hl : lk hp id = some (.arr esz rows))
    (ht : tab P t = some ⟨.slice e, n, m, zz⟩) (he : tab P e = some te) (hz : boxCells te.zero = some z) (hzl : z.length = esz) (hsz : rows.length = sz) (hb : base + len ≤ sz) (hlen : 0 < len)
    (hd : o.dst = none) (hh : hset hp id (.arr esz (rows.take base ++ List.replicate len z ++ rows.drop (base + len))) = hp') (hn : nx + 1 = nx') (h : AO P n0 all rest (i + 1) K ⟨tm, hp', nx'⟩) : AO P n0 all (o :: rest) i K ⟨tm, hp, nx⟩ := by
  subst hh
  subst hn
  refine AO_cons fun ext β a w hs hoo Q' next hnext => ?_
  rw [guard_ok hs hg, if_pos rfl]
  refine .inl ?_
  have hv := hs.ev x
  have hnm := hs.nm_ev x
  rw [show ev _ x = .ref id sz base len ex cc from hx] at hv hnm
  cases hnm with | ref _ _ _ _ _ _ hid =>
  generalize hze : a.eval x = v at hv
  cases hv with | ref _ _ _ _ _ _ ad cap hcap hlo hex hok =>
  obtain ⟨_, hok2⟩ := hok esz rows hl
  obtain ⟨_, hat⟩ := hok2 hsz.symm
  rcases hat with h0 | ⟨b, hbb, ha, e', mm, hsh, hmm⟩
  · omega
  obtain ⟨zv, hzr, hzc, hzn⟩ := zero_cells (cx ext β hp w) he hz
  have hzz := Rows.zeros hzc len
  rw [hzl] at hzz
  have hnews : RowVals (cx ext β hp w) esz (List.replicate len z) (Builtin.zeroCells zv.cells len).toList := by
    have e0 : Builtin.zeroCells zv.cells len = (Array.range (len * esz)).map fun i => zv.cells[i % zv.cells.size]! := by
      have : zv.cells.size = esz := by rw [← hzl]; exact hzc.size.symm ▸ rfl
      simp [Builtin.zeroCells, this]
    rw [e0]
    exact ⟨by rw [Array.length_toList, hzz.size], fun u hu => by
      obtain ⟨k, hk⟩ := List.getElem?_of_mem hu
      exact hzz.one k u (by rw [← Array.getElem?_toList]; exact hk), fun i r j y u hr hy hu => hzz.rel i r j y u hr hy (by rw [← Array.getElem?_toList]; exact hu)⟩
  have hex2 : execOp a.eval o = (do pure (.value (← Builtin.clear_ #[t] o.type #[.slice ad len cap])) : Sem Next) := by
    have e1 : execOp a.eval o = builtin .clear c.argTypes o.type (c.args.map fun | .const _ => true | _ => false) (c.args.map a.eval) := by
      simp only [execOp, ho, resolve, hcb, pure_bind]
      rfl
    rw [e1, hct, hca]
    have e2 : (#[x].map a.eval) = #[.slice ad len cap] := by simp [hze]
    rw [e2]
    rfl
  have hclear : ∀ cur, w.heap[b]? = some (.cells cur e' (0, 0)) → base * esz + (0 + len) * esz ≤ cur.size →
      (Builtin.clear_ #[t] o.type #[.slice ad len cap]).run P w = .ok (.tuple #[]) (w.setRow b (cur.toList.take (base * esz + 0 * esz) ++ (Builtin.zeroCells zv.cells len).toList ++ cur.toList.drop (base * esz + 0 * esz + (Builtin.zeroCells zv.cells len).toList.length)).toArray) := by
    intro cur h1 h2
    have hst := run_storeCells_at (P := P) b (base * esz) e' (Builtin.zeroCells zv.cells len).toList 0 cur w h1 (by rw [hnews.len]; simp; rw [Nat.zero_add] at h2; omega) hnews.one
    simp only [Nat.add_zero] at hst
    simp only [Nat.zero_mul, Nat.add_zero]
    obtain ⟨k, rfl⟩ : ∃ k, len = k + 1 := ⟨len - 1, by omega⟩
    rw [ha]
    simp [Builtin.clear_, run_underlying (und_slice ht), hzr, hst]
  have key := out_room (fresh := nx) (ex' := ex) (c1 := cc) (P := P) (len := 0) (n := len) (base := base) (cap := cap) (new := List.replicate len z) (s := (do let _ ← Builtin.clear_ #[t] o.type #[.slice ad len cap]; pure (.value (.slice (some ⟨b, base * esz, none⟩) (0 + len) cap)))) hs.heap hl hbb hsh hmm (by omega) (by omega) (by simp) (fun r hr => by rw [List.mem_replicate] at hr; rw [hr.2, hzl]) hnews
    (fun r hr y hy => by rw [List.mem_replicate] at hr; exact Fz.nm (hzn y (hr.2 ▸ hy)) _) hid hlo hex (fun cur h1 h2 => by simp [hclear cur h1 h2])
  obtain ⟨r, v', w', β', h1, h2, h3, h4, h5, h6, h7⟩ := key
  rw [Nat.add_zero] at h3 h4 h6 h7
  have hrun : (Builtin.clear_ #[t] o.type #[.slice ad len cap]).run P w = .ok (.tuple #[]) w' := by
    have hblk : ∃ cur, w.heap[b]? = some (.cells cur e' (0, 0)) ∧ base * esz + (0 + len) * esz ≤ cur.size := by
      obtain ⟨hrows, hblk⟩ := hs.heap.ob id _ hl
      have hb0 : (cx ext β hp w).β id = some b := hbb
      rw [hb0] at hblk
      obtain ⟨cur, e2, h8, h9, _⟩ := hblk
      have h8' : w.heap[b]? = some (.cells cur e2 (0, 0)) := h8
      have : w.shape? b = some (e2, cur.size) := by simp [World.shape?, h8']
      have hsh2 : w.shape? b = some (e', mm) := hsh
      rw [this] at hsh2
      injection hsh2 with hsh2
      injection hsh2 with q1 q2
      subst q1
      refine ⟨cur, h8', ?_⟩
      rw [← Nat.add_mul]
      refine Nat.le_trans (Nat.mul_le_mul_right _ ?_) h9
      omega
    obtain ⟨cur, h8, h9⟩ := hblk
    have h10 := hclear cur h8 h9
    have h11 : (do let _ ← Builtin.clear_ #[t] o.type #[.slice ad len cap]; pure (.value (.slice (some ⟨b, base * esz, none⟩) (0 + len) cap)) : Sem Next).run P w = .ok (.value (.slice (some ⟨b, base * esz, none⟩) (0 + len) cap)) (w.setRow b (cur.toList.take (base * esz + 0 * esz) ++ (Builtin.zeroCells zv.cells len).toList ++ cur.toList.drop (base * esz + 0 * esz + (Builtin.zeroCells zv.cells len).toList.length)).toArray) := by simp [h10]
    rw [h11] at h1
    injection h1 with _ h1
    rw [h10, h1]
  unfold Oper.wp
  rw [hex2]
  have hrun2 : (do pure (.value (← Builtin.clear_ #[t] o.type #[.slice ad len cap])) : Sem Next).run P w = .ok (.value (.tuple #[])) w' := by simp [hrun]
  rw [hrun2]
  have hpq : ∀ j, Lt nx j ∨ j = nx → Lt (nx + 1) j := fun j hj => by rcases hj with hj | hj <;> simp only [Lt] at * <;> omega
  have hlow : n0 ≤ nx := by
    rcases Nat.lt_or_ge nx n0 with h8 | h8
    · exact absurd (hs.low nx h8) (Nat.lt_irrefl _)
    · exact h8
  have hput := (hs.put h3 (fun _ => .inl) h7 (rel_undef (c := cx ext β' (hset hp id (.arr esz (rows.take base ++ List.replicate len z ++ rows.drop (base + len)))) w')) (.tuple [] (by simp)) o.dst).mono hpq
  have hput2 : SIn n0 ext β' ⟨tm, hset hp id (.arr esz (rows.take base ++ List.replicate len z ++ rows.drop (base + len))), nx + 1⟩ (a.put o.dst (.tuple #[])) w' := by
    rw [hd] at hput ⊢
    exact hput
  exact hnext β' _ _ _ h hput2 ⟨h6, h7.weaken fun j hj => Nat.lt_of_lt_of_le hj hlow⟩

/-- A call over a heap whose answer is known. -/
theorem AO_hcallD {o : Oper} {rest : List Oper} {i nx nx' n1 : Nat} {tm tm' : List AVal} {hp hp' h1 : Heap} {c : Call} {g : FuncId} {args : List AVal} {r1 y : AVal} (hg : guardA all tm o = some true) (ho : o.op = .call c) (ht : target tm c = some (g, args))
    (hc : HCall P g args hp nx (fun r h n => r = r1 ∧ h = h1 ∧ n = n1)) (hy : r1 = y) (hh : h1 = hp') (hn : n1 = nx') (htm : putT tm o.dst y = tm') (h : AO P n0 all rest (i + 1) K ⟨tm', hp', nx'⟩) : AO P n0 all (o :: rest) i K ⟨tm, hp, nx⟩ := by
  subst hy
  subst hh
  subst hn
  subst htm
  refine AO_hcall hg ho ht hc ?_
  rintro r h' nx' ⟨rfl, rfl, rfl⟩
  exact h

theorem _root_.Go.AM.Frz.refP {h : Heap} {S : Nat → Prop} {id sz base len esz c : Nat} {ex : Bool} {xs ys : List (List AVal)} (hS : S id) (hl : lk h id = some (.arr esz xs)) (hsz : xs.length = sz) (hb : base + len ≤ sz) (e : (xs.drop base).take len = ys) : Frz h S (.ref id sz base len ex c) (.sl ys Option.none) := by
  subst e
  exact Frz.ref0 hS hl hsz hb

theorem retH_of {rs : List ResultVar} {s : St} {xs : List AVal} {r1 : AVal} {h1 : Heap} {n1 : Nat} (h : resAs P s rs = some xs) (h2 : packA xs = r1) (h3 : s.h = h1) (h4 : s.nx = n1) : retH P rs (fun r h n => r = r1 ∧ h = h1 ∧ n = n1) .ret s :=
  ⟨xs, s.h, h, fun _ _ e => e, h2, h3, h4⟩

end
end Go.AM
end

section
set_option linter.unusedVariables false
namespace Go.AM
open Go

/-- Ahead of the `if` (else simp's time doubles with each object of the heap). -/
theorem lk_hit {i j : Nat} {o : Ob} {h : Heap} (e : i = j) : lk ((i, o) :: h) j = some o := by simp [lk, e]
theorem lk_miss {i j : Nat} {o : Ob} {h : Heap} (e : ¬ i = j) : lk ((i, o) :: h) j = lk h j := by simp [lk, e]
theorem hset_hit {i j : Nat} {o q : Ob} {h : Heap} (e : i = j) : hset ((i, o) :: h) j q = (i, q) :: h := by simp [hset, e]
theorem hset_miss {i j : Nat} {o q : Ob} {h : Heap} (e : ¬ i = j) : hset ((i, o) :: h) j q = (i, o) :: hset h j q := by simp [hset, e]
attribute [go_sem ↓] lk_hit lk_miss hset_hit hset_miss

section
variable {P : Program} {n0 : Nat} {all : Array Oper} {K : St → Prop}
/-- A row that only reads: a call whose arguments' spare room is forgotten. -/
theorem V_callUE {nx : Nat} {o : Oper} {rest : List Oper} {i i' : Nat} {tm tm' : List AVal} {hp : Heap} {c : Call} {g : FuncId} {args args' : List AVal} {r : AVal} (hg : guardA all tm o = some true) (ho : o.op = .call c) (ht : target tm c = some (g, args))
    (hc : PCall P g args' (· = r)) (hf : FrzL [] [] args args') (htm : putT tm o.dst r = tm') (hn : i + 1 = i') (h : DV P all nx K rest i' tm' hp) : DV P all nx K (o :: rest) i tm hp := fun tc htc =>
  D_callUE hg ho ht hc hf htm hn rfl (h _ (allOld_append htc fun j hj => by cases hj))
end

end Go.AM
end

section
set_option linter.unusedVariables false
namespace Go.AM
open Go

theorem get_of_len {α β : Type} {xs : List α} {ys : List β} (h : ys.length = xs.length) {i : Nat} {y : β} (hy : ys[i]? = some y) : ∃ x, xs[i]? = some x := by
  have := (List.getElem?_eq_some_iff.1 hy).1
  exact ⟨xs[i]'(by omega), List.getElem?_eq_getElem _⟩

/-- The same value, with less known of it. -/
theorem Frz.same {c : Cx} {x y : AVal} (f : Frz [] (fun _ => False) x y) : ∀ v, VRel c x v → VRel c y v := by
  induction f with
  | refl x => exact fun v h => h
  | ref id sz base len ex c esz rows rows' lim hS => exact hS.elim
  | ptr id sz row col esz rows r cells hS => exact hS.elim
  | agg xs ys hlen hrel ih =>
    intro v hv
    cases hv with | agg _ vs h1 h2 h3 =>
    refine .agg _ vs (by omega) h2 fun i y u hy hu => ?_
    obtain ⟨x, hx⟩ := get_of_len hlen hy
    exact ih i x y hx hy u (h3 i x u hx hu)
  | tuple xs ys hlen hrel ih =>
    intro v hv
    cases hv with | tuple _ vs h1 h3 =>
    refine .tuple _ vs (by omega) fun i y u hy hu => ?_
    obtain ⟨x, hx⟩ := get_of_len hlen hy
    exact ih i x y hx hy u (h3 i x u hx hu)
  | func fn xs ys us vs hlen hlen' hrel hrel' ih ih' =>
    intro v hv
    cases hv with | func _ _ _ as bs h1 h2 h3 h4 =>
    refine .func _ _ _ as bs (by omega) (by omega) (fun i y u hy hu => ?_) fun i y u hy hu => ?_
    · obtain ⟨x, hx⟩ := get_of_len hlen hy
      exact ih i x y hx hy u (h3 i x u hx hu)
    · obtain ⟨x, hx⟩ := get_of_len hlen' hy
      exact ih' i x y hx hy u (h4 i x u hx hu)
  | iface t x y hrel ih =>
    intro v hv
    cases hv with | iface _ _ u h => exact .iface _ _ u (ih u h)
  | sl rows rows' lim hlen hrow hrel ih =>
    intro v hv
    cases hv with | sl _ _ a cap esz blk off vals hcap hlim hrow0 ha hcell hrel0 =>
    have h := VRel.sl (c := c) rows' Option.none a cap esz blk off vals (by omega) (fun l h => by cases h) (fun r' hr' => ?_) (fun hne => ?_) (fun i r' j x' h1 h2 => ?_) fun i r' j x' h1 h2 => ?_
    · rw [hlen] at h
      exact h
    · obtain ⟨i, hi⟩ := mem_get hr'
      obtain ⟨r, hr⟩ := get_of_len hlen hi
      rw [hrow i r r' hr hi]
      exact hrow0 r (List.mem_of_getElem? hr)
    · refine ha fun e => hne ?_
      subst e
      exact List.length_eq_zero_iff.1 (by simpa using hlen)
    · obtain ⟨r, hr⟩ := get_of_len hlen h1
      obtain ⟨x, hx⟩ := get_of_len (hrow i r r' hr h1) h2
      exact hcell i r j x hr hx
    · obtain ⟨r, hr⟩ := get_of_len hlen h1
      obtain ⟨x, hx⟩ := get_of_len (hrow i r r' hr h1) h2
      exact ih i r r' j x x' hr h1 hx h2 _ (hrel0 i r j x hr hx)

theorem Frz.nmS {p : Nat → Prop} {x y : AVal} (f : Frz [] (fun _ => False) x y) : Nm p x → Nm p y := by
  induction f with
  | refl x => exact fun h => h
  | ref id sz base len ex c esz rows rows' lim hS => exact hS.elim
  | ptr id sz row col esz rows r cells hS => exact hS.elim
  | agg xs ys hlen hrel ih =>
    intro hv
    cases hv with | agg _ h =>
    refine .agg _ fun y hy => ?_
    obtain ⟨i, hi⟩ := mem_get hy
    obtain ⟨x, hx⟩ := get_of_len hlen hi
    exact ih i x y hx hi (h x (List.mem_of_getElem? hx))
  | tuple xs ys hlen hrel ih =>
    intro hv
    cases hv with | tuple _ h =>
    refine .tuple _ fun y hy => ?_
    obtain ⟨i, hi⟩ := mem_get hy
    obtain ⟨x, hx⟩ := get_of_len hlen hi
    exact ih i x y hx hi (h x (List.mem_of_getElem? hx))
  | func fn xs ys us vs hlen hlen' hrel hrel' ih ih' =>
    intro hv
    cases hv with | func _ _ _ h h' =>
    refine .func _ _ _ (fun y hy => ?_) fun y hy => ?_
    · obtain ⟨i, hi⟩ := mem_get hy
      obtain ⟨x, hx⟩ := get_of_len hlen hi
      exact ih i x y hx hi (h x (List.mem_of_getElem? hx))
    · obtain ⟨i, hi⟩ := mem_get hy
      obtain ⟨x, hx⟩ := get_of_len hlen' hi
      exact ih' i x y hx hi (h' x (List.mem_of_getElem? hx))
  | iface t x y hrel ih =>
    intro hv
    cases hv with | iface _ _ h => exact .iface _ _ (ih h)
  | sl rows rows' lim hlen hrow hrel ih =>
    intro hv
    cases hv with | sl _ _ h =>
    refine .sl _ _ fun r' hr' y hy => ?_
    obtain ⟨i, hi⟩ := mem_get hr'
    obtain ⟨r, hr⟩ := get_of_len hlen hi
    obtain ⟨j, hj⟩ := mem_get hy
    obtain ⟨x, hx⟩ := get_of_len (hrow i r r' hr hi) hj
    exact ih i r r' j x y hr hi hx hj (h r (List.mem_of_getElem? hr) x (List.mem_of_getElem? hx))

abbrev FrR0 (xs ys : List (List AVal)) : Prop := FrR [] (fun _ => False) xs ys

section
variable {fl : Bool} {P : Program} {n0 : Nat} {Q : Exit → St → Prop} {k : List It} {all : Array Oper} {K : St → Prop}

theorem SIn.relax {ext : Nat → Prop} {β : Nat → Option Nat} {tm tm' : List AVal} {h : Heap} {nx id esz : Nat} {xs ys : List (List AVal)} {a : Act} {w : World} (i : SIn n0 ext β ⟨tm, h, nx⟩ a w) (hl : lk h id = some (.arr esz xs)) (fr : FrR0 xs ys) (ft : FrC0 tm tm') :
    SIn n0 ext β ⟨tm', hset h id (.arr esz ys), nx⟩ a w ∧ Goes n0 ext β h w β (hset h id (.arr esz ys)) w := by
  have hk := fun j => lk_hset' (h := h) (id := id) (j := j) (o := .arr esz ys) (by rw [hl]; rfl)
  have back : ∀ {j o'}, lk (hset h id (.arr esz ys)) j = some o' → ∃ o, lk h j = some o ∧ (o' = o ∨ (j = id ∧ o = .arr esz xs ∧ o' = .arr esz ys)) := by
    intro j o' e
    rw [hk] at e
    split at e
    · rename_i hj
      subst hj
      injection e with e
      exact ⟨_, hl, .inr ⟨rfl, rfl, e.symm⟩⟩
    · exact ⟨_, e, .inl rfl⟩
  have hown : ∀ b, owns β (hset h id (.arr esz ys)) b → owns β h b := fun b ⟨j, o', e1, e2⟩ => let ⟨o, e3, _⟩ := back e1; ⟨j, o, e3, e2⟩
  have st : ∀ p : Nat → Prop, Step p (cx ext β h w) (cx ext β (hset h id (.arr esz ys)) w) := fun p =>
    { cell := fun b o v h1 h2 => ⟨fun h3 => h1 (h3.imp (fun e => e) (hown b)), h2⟩
      shape := fun _ _ h => h
      arr := fun j _ esz' rows hr => by
        obtain ⟨o, h1, h2⟩ := back hr
        rcases h2 with h2 | ⟨_, h2, h3⟩
        · exact ⟨rows, by rw [h2]; exact h1, Nat.le_refl _, fun _ => rfl⟩
        · injection h3 with h3 h4
          subst h3
          subst h4
          subst h2
          exact ⟨xs, h1, Nat.le_of_eq fr.len.symm, fun _ => rfl⟩
      mp := fun j _ es hr => by
        obtain ⟨o, h1, h2⟩ := back hr
        rcases h2 with h2 | ⟨_, _, h3⟩
        · exact ⟨es, by rw [h2]; exact h1, rfl⟩
        · cases h3 }
  have hin := i.heap
  refine ⟨⟨⟨fun j o' hj => ?_, fun j o' hj => ?_, fun j j' o o' b h1 h2 h3 h4 => ?_, fun b hb => ⟨(hin.ext b hb).1, fun e => (hin.ext b hb).2 (hown b e)⟩⟩, by rw [i.size]; exact ft.len.symm, fun k y v hy hv => ?_, fun y hy => ?_, i.defers, i.low⟩,
    ⟨⟨Nat.le_refl _, fun _ _ _ => rfl, fun b _ e => hown b e, fun _ _ h => h, rfl, rfl, rfl⟩, st _⟩⟩
  · obtain ⟨o, h1, h2⟩ := back hj
    have h3 := (hin.nm j o h1).2
    rcases h2 with rfl | ⟨rfl, rfl, rfl⟩
    · exact ObIn.step (st _) rfl (fun _ _ => rfl) h3 (hin.ob j o' h1)
    · obtain ⟨h4, h5⟩ := hin.ob j _ h1
      refine ⟨fun r' hr' => ?_, ?_⟩
      · obtain ⟨m, hm⟩ := mem_get hr'
        obtain ⟨r, hr⟩ := get_of_len fr.len hm
        rw [(fr.get m r r' hr hm).len]
        exact h4 r (List.mem_of_getElem? hr)
      · show match β j with | none => _ | some b => _
        have h5' : match β j with | none => xs = [] | some b => _ := h5
        cases hb : β j with
        | none =>
          simp only [hb] at h5' ⊢
          subst h5'
          cases fr
          rfl
        | some b =>
          simp only [hb] at h5' ⊢
          obtain ⟨cs, e', h6, h7, h8⟩ := h5'
          refine ⟨cs, e', h6, by rw [fr.len]; exact h7, fun m r' q x' hr' hx' => ?_⟩
          obtain ⟨r, hr⟩ := get_of_len fr.len hr'
          have fc := fr.get m r r' hr hr'
          obtain ⟨x, hx⟩ := get_of_len fc.len hx'
          obtain ⟨v, h11, h12, h13⟩ := h8 m r q x hr hx
          exact ⟨v, h11, h12, ((fc.get q x x' hx hx').same v h13).step (st _) ((fc.get q x x' hx hx').nmS (h3 r (List.mem_of_getElem? hr) x (List.mem_of_getElem? hx)))⟩
  · obtain ⟨o, h1, h2⟩ := back hj
    have h3 := hin.nm j o h1
    rcases h2 with rfl | ⟨rfl, rfl, rfl⟩
    · exact h3
    · refine ⟨h3.1, fun r' hr' x' hx' => ?_⟩
      obtain ⟨m, hm⟩ := mem_get hr'
      obtain ⟨r, hr⟩ := get_of_len fr.len hm
      have fc := fr.get m r r' hr hm
      obtain ⟨q, hq⟩ := mem_get hx'
      obtain ⟨x, hx⟩ := get_of_len fc.len hq
      exact (fc.get q x x' hx hq).nmS (h3.2 r (List.mem_of_getElem? hr) x (List.mem_of_getElem? hx))
  · obtain ⟨o1, e1, _⟩ := back h1
    obtain ⟨o2, e2, _⟩ := back h2
    exact hin.inj j j' o1 o2 b e1 e2 h3 h4
  · obtain ⟨x, hx⟩ := get_of_len ft.len hy
    have f := ft.get k x y hx hy
    exact (f.same v (i.rel k x v hx hv)).step (st _) (f.nmS (i.nm x (List.mem_of_getElem? hx)))
  · obtain ⟨k, hk2⟩ := mem_get hy
    obtain ⟨x, hx⟩ := get_of_len ft.len hk2
    exact (ft.get k x y hx hk2).nmS (i.nm x (List.mem_of_getElem? hx))

/-- Inside an object the spare room of lists is forgotten. -/
theorem W_relaxT {c : Code} {tm : List AVal} {hp hp' : Heap} {nx : Nat} (id esz : Nat) (xs ys : List (List AVal)) (hl : lk hp id = some (.arr esz xs)) (fr : FrR0 xs ys) (e : hset hp id (.arr esz ys) = hp') (h : AWP P n0 c (unw P n0 k Q) ⟨tm, hp', nx⟩) : AWP P n0 c (unw P n0 k Q) ⟨tm, hp, nx⟩ := by
  subst e
  intro ext β a w i
  obtain ⟨i2, g2⟩ := i.relax hl fr (FrC.refl _)
  exact wp_mono (h ext β a w i2) fun _ _ _ p => p.after g2

/-- An object is taken for a list. -/
theorem W_frzI {α : Type} [Enc α] {c : Code} {tm tm' : List AVal} {hp hp' : Heap} {nx esz : Nat} {xs : List (List AVal)} (id : Nat) (l : List α) (n : Nat) (hl : lk hp id = some (.arr esz xs)) (e : xs = rws l) (hn : l.length = n)
    (e1 : tm.map (subA id n (rws l)) = tm') (e2 : subH id n (rws l) hp = hp') (h : AWP P n0 c (unw P n0 k Q) ⟨tm', hp', nx⟩) : AWP P n0 c (unw P n0 k Q) ⟨tm, hp, nx⟩ := by
  subst e
  subst e1
  subst e2
  intro ext β a w i
  obtain ⟨i2, g2⟩ := i.sub hl (by rw [rws_length, hn]) (rws_fz l Option.none)
  exact wp_mono (h ext β a w i2) fun _ _ _ p => p.after g2

end

theorem FrR.snoc {xs ys : List (List AVal)} {r r' : List AVal} (f : FrR0 xs ys) (h : FrC0 r r') : FrR0 (xs ++ [r]) (ys ++ [r']) := by
  induction f with
  | nil => exact .cons h .nil
  | cons h1 _ ih => exact .cons h1 ih

theorem FrR.rep {r r' : List AVal} (h : FrC0 r r') : ∀ n : Nat, FrR0 (List.replicate n r) (List.replicate n r')
  | 0 => .nil
  | n + 1 => .cons h (FrR.rep h n)

theorem Flat.two {x y : AVal} (h1 : Flat x) (h2 : Flat y) : Flat (.tuple [x, y]) := Flat.tuple fun z hz => by
  simp only [List.mem_cons, List.not_mem_nil, or_false] at hz
  rcases hz with rfl | rfl
  · exact h1
  · exact h2

end Go.AM

namespace Go.AM
open Go

section
variable {fl : Bool} {P : Program} {n0 : Nat} {Q : Exit → St → Prop} {k : List It}

/-- A state may be taken for another one. -/
def Can (n0 : Nat) (s s' : St) : Prop := ∀ ext β a w, SIn n0 ext β s a w → ∃ β', SIn n0 ext β' s' a w ∧ Goes n0 ext β s.h w β' s'.h w

theorem Can.ofWeak {s s' : St} (h : Weak n0 s s') : Can n0 s s' := fun _ β _ _ i => ⟨β, (i.weak h).1, (i.weak h).2⟩
theorem Can.trans {s s2 s3 : St} (h : Can n0 s s2) (h' : Can n0 s2 s3) : Can n0 s s3 := fun ext β a w i =>
  let ⟨β2, i2, g2⟩ := h ext β a w i
  let ⟨β3, i3, g3⟩ := h' ext β2 a w i2
  ⟨β3, i3, g2.trans g3⟩

/-- An object is taken for a list. -/
theorem Can.frzI {α : Type} [Enc α] {s : St} {tm tm' : List AVal} {hp hp' : Heap} {nx esz : Nat} {xs : List (List AVal)} (id : Nat) (l : List α) (n : Nat) (hl : lk hp id = some (.arr esz xs)) (e : xs = rws l) (hn : l.length = n)
    (e1 : tm.map (subA id n (rws l)) = tm') (e2 : subH id n (rws l) hp = hp') (h : Can n0 ⟨tm', hp', nx⟩ s) : Can n0 ⟨tm, hp, nx⟩ s := by
  subst e
  subst e1
  subst e2
  refine Can.trans (fun ext β a w i => ?_) h
  obtain ⟨i2, g2⟩ := i.sub hl (by rw [rws_length, hn]) (rws_fz l Option.none)
  exact ⟨β, i2, g2⟩

/-- Inside an object the spare room of lists is forgotten. -/
theorem Can.relaxT {s : St} {tm : List AVal} {hp hp' : Heap} {nx : Nat} (id esz : Nat) (xs ys : List (List AVal)) (hl : lk hp id = some (.arr esz xs)) (fr : FrR0 xs ys) (e : hset hp id (.arr esz ys) = hp') (h : Can n0 ⟨tm, hp', nx⟩ s) : Can n0 ⟨tm, hp, nx⟩ s := by
  subst e
  refine Can.trans (fun ext β a w i => ?_) h
  obtain ⟨i2, g2⟩ := i.relax hl fr (FrC.refl _)
  exact ⟨β, i2, g2⟩

/-- A loop, whose state at a round's end may be taken for one at a round's beginning. -/
theorem W_foldC {α : Type} {c : Code} {s : St} (I : α → Prop) (M : α → Nat) (F : α → St) (a0 : α) (h0 : I a0) (hd : Can n0 s (F a0))
    (round : ∀ a, I a → AWP P n0 c (unw P n0 [] (thenQ (fun s' => ∃ a', M a' < M a ∧ I a' ∧ Can n0 s' (F a')) (unw P n0 k Q))) (F a)) : AWP P n0 (.loop c) (unw P n0 k Q) s := by
  intro ext β a w i
  obtain ⟨β1, i1, g1⟩ := hd ext β a w i
  refine wp_loop_n (P := P) (fun m a' w' => ∃ β' x, (I x ∧ m = M x) ∧ SIn n0 ext β' (F x) a' w' ∧ Goes n0 ext β s.h w β' (F x).h w') ?_ (M a0) a w ⟨β1, a0, ⟨h0, rfl⟩, i1, g1⟩
  rintro m a' w' ⟨β', x, ⟨hI, rfl⟩, i', g⟩
  refine wp_mono (round x hI ext β' a' w' i') ?_
  rintro e a2 w2 ⟨β2, s2, q, i2, g2⟩
  cases e with
  | normal =>
    obtain ⟨x', hm, hI', hc⟩ := q
    obtain ⟨β3, i3, g3⟩ := hc ext β2 a2 w2 i2
    exact ⟨M x', hm, β3, x', ⟨hI', rfl⟩, i3, (g.trans g2).trans g3⟩
  | exit id => exact ⟨β2, s2, q, i2, g.trans g2⟩
  | goto l => exact ⟨β2, s2, q, i2, g.trans g2⟩
  | ret => exact ⟨β2, s2, q, i2, g.trans g2⟩
  | panic ch => exact ⟨β2, s2, q, i2, g.trans g2⟩
  | outgrown => exact ⟨β2, s2, q, i2, g.trans g2⟩

/-- As W_foldM. -/
theorem W_foldMC {α : Type} {c : Code} {tm : List AVal} {hp : Heap} {nx : Nat} (mask : α → List (Option AVal)) (H : α → Heap) (I : α → Prop) (M : α → Nat) (a0 : α) (h0 : I a0) (hd : Can n0 ⟨tm, hp, nx⟩ ⟨msk (mask a0) tm, H a0, nx⟩)
    (round : ∀ a, I a → AWP P n0 c (unw P n0 [] (thenQ (fun s' => ∃ a', M a' < M a ∧ I a' ∧ Can n0 s' ⟨msk (mask a') tm, H a', nx⟩) (unw P n0 k Q))) ⟨msk (mask a) tm, H a, nx⟩) : AWP P n0 (.loop c) (unw P n0 k Q) ⟨tm, hp, nx⟩ :=
  W_foldC I M (fun a => ⟨msk (mask a) tm, H a, nx⟩) a0 h0 hd round
end

theorem FrC.of0 {h : Heap} {S : Nat → Prop} {xs ys : List AVal} (f : FrC0 xs ys) : FrC h S xs ys := by
  induction f with
  | nil => exact .nil
  | cons h1 _ ih => exact .cons (Frz.widen (fun _ h => h.elim) (Frz.none h1.nowhere h)) ih

theorem FrR.of0 {h : Heap} {S : Nat → Prop} {xs ys : List (List AVal)} (f : FrR0 xs ys) : FrR h S xs ys := by
  induction f with
  | nil => exact .nil
  | cons h1 _ ih => exact .cons h1.of0 ih

/-- A whole object, of whose rows less is known. -/
theorem Frz.refF {h : Heap} {S : Nat → Prop} {id n esz c : Nat} {ex : Bool} {xs ys : List (List AVal)} (hS : S id) (hl : lk h id = some (.arr esz xs)) (f : FrR0 xs ys) (hn : ys.length = n) : Frz h S (.ref id n 0 n ex c) (.sl ys Option.none) :=
  Frz.refR hS hl (by rw [← f.len, hn]) f.of0

end Go.AM

namespace Go.AM
open Go

/-- Values that are seen at once to name no object. -/
def leafOk : AVal → Bool
  | .int _ _ => true
  | .bool _ => true
  | .str _ => true
  | _ => false
def fzOk : AVal → Bool
  | .agg cs => cs.all leafOk
  | x => leafOk x
def fz0 (x : AVal) : AVal := if fzOk x = true then x else .junk

theorem leafOk_fz {x : AVal} (h : leafOk x = true) : Fz x := by
  cases x <;> first | exact .int _ _ | exact .bool _ | exact .str _ | cases h
theorem fzOk_fz {x : AVal} (h : fzOk x = true) : Fz x := by
  cases x with
  | agg cs => exact .agg _ fun y hy => leafOk_fz (List.all_eq_true.1 h y hy)
  | int k n => exact .int _ _
  | bool b => exact .bool _
  | str s => exact .str _
  | _ => cases h

theorem fz0_of {x : AVal} (h : fzOk x = true) : fz0 x = x := if_pos h

/-- A list that is built of plain values, and of which nobody knows but who built it. -/
theorem litOp_of {P : Program} {tm : List AVal} {o : Oper} {n esz c : Nat} {ex : Bool} {rows : List (List AVal)} (hst : o.op.operands.toList.all (fun x => match x with | .tmp _ => fzOk (ev tm x) | _ => true) = true)
    (hs : astep P tm [] 0 o = some (.ref 0 n 0 n ex c, [(0, .arr esz rows)])) (hn : rows.length = n) (hz : Fz (.sl rows Option.none)) : LitOp P tm o (.sl rows Option.none) := by
  intro n0 ext β p tmps h a w i hev K Q hk
  have hev2 : ∀ x, x ∈ o.op.operands → ev (tmps.map fz0) x = ev tm x := fun x hx => by
    have h1 := List.all_eq_true.1 hst x (by simpa using hx)
    have h2 := hev x hx
    cases x with
    | tmp t =>
      have e : ev (tmps.map fz0) (.tmp t) = fz0 (ev tmps (.tmp t)) := by
        simp only [ev, List.getD_eq_getElem?_getD, List.getElem?_map]
        cases tmps[t]? <;> rfl
      rw [e, h2, fz0_of h1]
    | _ => exact h2
  have st0 : Step (fun _ => False) (cx ext β h w) (cx (fun b => ext b ∨ owns β h b) (fun _ => Option.none) [] w) :=
    ⟨fun b o v h1 h2 => ⟨fun h3 => h1 (h3.resolve_right fun ⟨_, _, e, _⟩ => by simp [lk] at e), h2⟩, fun _ _ h => h, fun _ h => h.elim, fun _ h => h.elim⟩
  have hin : HIn (fun b => ext b ∨ owns β h b) (fun _ => Option.none) (fun _ => False) [] w :=
    ⟨fun id o h => by simp [lk] at h, fun id o h => by simp [lk] at h, fun id id' o o' b h => by simp [lk] at h, fun b hb => ⟨hb.elim (fun h => (i.heap.ext b h).1) fun h => i.heap.lt h, fun ⟨_, _, e, _⟩ => by simp [lk] at e⟩⟩
  have i' : SInP 0 (fun b => ext b ∨ owns β h b) (fun _ => Option.none) (fun _ => False) (tmps.map fz0) [] a w := by
    refine ⟨hin, by rw [i.size]; simp, fun k x v hx hv => ?_, fun x hx => ?_, i.defers, fun j hj => by omega⟩
    · rw [List.getElem?_map] at hx
      obtain ⟨y, hy, rfl⟩ := Option.map_eq_some_iff.1 hx
      unfold fz0
      split
      · rename_i hf
        exact (i.rel k y v hy hv).step st0 (fzOk_fz hf)
      · exact .junk v
    · obtain ⟨y, _, rfl⟩ := List.mem_map.1 hx
      unfold fz0
      split
      · rename_i hf
        exact fzOk_fz hf
      · exact .junk
  have hs2 : astep P (tmps.map fz0) [] 0 o = some (.ref 0 n 0 n ex c, [(0, .arr esz rows)]) := by rw [astep_congr hev2]; exact hs
  obtain ⟨rr, v, w', β', e1, e2, e3, e4, e5, e6, e7⟩ := astep_ok i' (fun h => h) hs2
  have hno : ∀ b, ¬ owns (fun _ => Option.none) [] b := fun b ⟨_, _, h1, _⟩ => by simp [lk] at h1
  obtain ⟨k1, k2, k3⟩ := i.heap.evo (w' := w') ⟨e6.size, fun b hb _ => e6.keep b hb (hno b), fun _ _ h => h.elim, e6.shape, e6.rest⟩
  have f := Frz.ref0 (h := [(0, Ob.arr esz rows)]) (S := fun _ => True) (id := 0) (sz := n) (base := 0) (len := n) (ex := ex) (c := c) trivial rfl hn (by omega)
  rw [List.drop_zero, List.take_of_length_le (by omega)] at f
  have r := Frz.rel (ext' := fun b => ext b ∨ owns β h b) e3 (fun b hb => .inl hb) (fun id o b _ hl hb hx => (e3.ext b hx).2 ⟨id, o, hl, hb⟩) f v e4
  have st : Step (fun _ => False) (cx (fun b => ext b ∨ owns β h b) (fun _ => Option.none) [] w') (cx ext β h w') :=
    ⟨fun b o v h1 h4 => ⟨fun h3 => h1 (Or.inl h3), h4⟩, fun _ _ h => h, fun _ h => h.elim, fun _ h => h.elim⟩
  have hgo := hk v w' k1 (r.step st hz) hz k2 k3
  unfold Oper.wp
  rw [e1]
  rcases e2 with rfl | ⟨rfl, rfl⟩
  · exact hgo
  · exact hgo

section
variable {fl : Bool} {P : Program} {all : Array Oper} {K : St → Prop}
theorem D_litE {nx : Nat} {o : Oper} {rest : List Oper} {i i' : Nat} {tm tm' : List AVal} {hp : Heap} {tc tc' : List (Bool × List Nat)} {n esz c : Nat} {ex : Bool} {rows rows' : List (List AVal)} {t : TypeId} {l : Nat} {ps : Array (Nat × Operand)} (hop : o.op = .buildSlice t l ps) (hg : guardA all tm o = some true)
    (hst : o.op.operands.toList.all (fun x => match x with | .tmp _ => fzOk (ev tm x) | _ => true) = true)
    (hs : astep P tm [] 0 o = some (.ref 0 n 0 n ex c, [(0, .arr esz rows)])) (hr : rows = rows') (hn' : rows'.length = n) (hz : Fz (.sl rows' Option.none)) (ht : putT tm o.dst (.sl rows' Option.none) = tm') (hn : i + 1 = i') (htc : tc ++ [(false, [])] = tc') (h : DW fl P all nx K rest i' tm' hp tc') : DW fl P all nx K (o :: rest) i tm hp tc := by
  subst ht
  subst hn
  subst htc
  subst hr
  exact D_lit _ hg (litOp_of hst hs hn' hz) h
end
end Go.AM
end

section
set_option linter.unusedVariables false
namespace Go.AM
open Go

/-- A proof that nothing but its own word hands out. -/
structure Held (p : Prop) : Prop where
  out : p
theorem Z0 {p q : Prop} (hq : q) (h : Held q → p := by
    intro h
    first
      | with_reducible first | exact W_seq h.out | exact W_block h.out | exact W_skip h.out | exact N_code h.out | exact N_blk h.out | exact W_exit h.out | exact E_code h.out | exact E_blk_ne (by decide) h.out | exact W_ret h.out | exact R_code h.out | exact R_blk h.out | exact L_ret h.out | exact F_ret h.out | exact F_out (by decide) h.out | exact FW_ret h.out | exact FW_out (by decide) h.out | exact R_nil h.out
      | ((with_reducible apply W_condT); (case hb => exact rfl); (case hw => with_reducible rfl); (case h => exact h.out))
      | ((with_reducible apply W_condF); (case hb => exact rfl); (case hw => with_reducible rfl); (case h => exact h.out))
      | ((with_reducible apply D_admE); (case hop => exact rfl); (case ha => exact rfl); (case hna => exact rfl); (try case hl => exact tT); (case hg => exact gT); (case hy => exact rfl); (case ht => exact pT); (case hn => exact nT); (try case hc => exact rfl); (case h => exact h.out))
      | ((with_reducible apply D_adrE); (case ha => exact rfl); (case hna => exact rfl); (try case hl => exact tT); (case hg => exact gT); (case hs => simp (maxSteps := 2000000) (disch := omega) only [go_sem]; exact rfl); (case ht => exact pT); (case hn => exact nT); (try case hc => exact rfl); (case h => exact h.out))
      | ((with_reducible first | apply AO_mvE | apply V_mvE | apply D_mvE); (case hop => exact rfl); (case hg => exact gT); (try case hw => exact rfl); (try case hl => exact tT); (case hy => exact rfl); (case ht => exact pT); (case hn => exact nT); (try case hc => exact rfl); (case h => exact h.out))
      | ((with_reducible first | apply AO_stepE | apply V_stepE | apply D_stepE); (case hg => exact gT); (try case hw => exact rfl); (try case hl => exact tT); (case hs => simp (maxSteps := 2000000) (disch := omega) only [go_sem]; exact rfl); (case ht => exact pT); (case hn => exact nT); (try case hc => exact rfl); (case h => exact h.out))
      | ((with_reducible first | apply AO_skipE | apply V_skipE | apply D_skipE); (case hg => exact gF); (case ht => exact pT); (case hn => exact nT); (try case hc => exact rfl); (case h => exact h.out))
      | fail) : p := h ⟨hq⟩
theorem Z1 {p q : Prop} (hq : q) (h : Held q → p := by
    intro h
    first
      | with_reducible first | exact W_seq h.out | exact W_block h.out | exact W_skip h.out | exact N_code h.out | exact N_blk h.out | exact W_exit h.out | exact E_code h.out | exact E_blk_ne (by decide) h.out | exact W_ret h.out | exact R_code h.out | exact R_blk h.out | exact L_ret h.out | exact F_ret h.out | exact F_out (by decide) h.out | exact FW_ret h.out | exact FW_out (by decide) h.out | exact R_nil h.out
      | ((with_reducible apply W_condT); (case hb => exact rfl); (case hw => with_reducible rfl); (case h => exact h.out))
      | ((with_reducible apply W_condF); (case hb => exact rfl); (case hw => with_reducible rfl); (case h => exact h.out))
      | ((with_reducible apply D_admE); (case hop => exact rfl); (case ha => exact rfl); (case hna => exact rfl); (try case hl => exact tT); (case hg => exact gT); (case hy => exact rfl); (case ht => exact pT); (case hn => exact nT); (try case hc => exact rfl); (case h => exact h.out))
      | ((with_reducible apply D_adrE); (case ha => exact rfl); (case hna => exact rfl); (try case hl => exact tT); (case hg => exact gT); (case hs => simp (maxSteps := 2000000) (disch := omega) only [go_sem, zz1]; exact rfl); (case ht => exact pT); (case hn => exact nT); (try case hc => exact rfl); (case h => exact h.out))
      | ((with_reducible first | apply AO_mvE | apply V_mvE | apply D_mvE); (case hop => exact rfl); (case hg => exact gT); (try case hw => exact rfl); (try case hl => exact tT); (case hy => exact rfl); (case ht => exact pT); (case hn => exact nT); (try case hc => exact rfl); (case h => exact h.out))
      | ((with_reducible first | apply AO_stepE | apply V_stepE | apply D_stepE); (case hg => exact gT); (try case hw => exact rfl); (try case hl => exact tT); (case hs => simp (maxSteps := 2000000) (disch := omega) only [go_sem, zz1]; exact rfl); (case ht => exact pT); (case hn => exact nT); (try case hc => exact rfl); (case h => exact h.out))
      | ((with_reducible first | apply AO_skipE | apply V_skipE | apply D_skipE); (case hg => exact gF); (case ht => exact pT); (case hn => exact nT); (try case hc => exact rfl); (case h => exact h.out))
      | fail) : p := h ⟨hq⟩
theorem Z2 {p q : Prop} (hq : q) (h : Held q → p := by
    intro h
    first
      | with_reducible first | exact W_seq h.out | exact W_block h.out | exact W_skip h.out | exact N_code h.out | exact N_blk h.out | exact W_exit h.out | exact E_code h.out | exact E_blk_ne (by decide) h.out | exact W_ret h.out | exact R_code h.out | exact R_blk h.out | exact L_ret h.out | exact F_ret h.out | exact F_out (by decide) h.out | exact FW_ret h.out | exact FW_out (by decide) h.out | exact R_nil h.out
      | ((with_reducible apply W_condT); (case hb => exact rfl); (case hw => with_reducible rfl); (case h => exact h.out))
      | ((with_reducible apply W_condF); (case hb => exact rfl); (case hw => with_reducible rfl); (case h => exact h.out))
      | ((with_reducible apply D_admE); (case hop => exact rfl); (case ha => exact rfl); (case hna => exact rfl); (try case hl => exact tT); (case hg => exact gT); (case hy => exact rfl); (case ht => exact pT); (case hn => exact nT); (try case hc => exact rfl); (case h => exact h.out))
      | ((with_reducible apply D_adrE); (case ha => exact rfl); (case hna => exact rfl); (try case hl => exact tT); (case hg => exact gT); (case hs => simp (maxSteps := 2000000) (disch := omega) only [go_sem, zz1, zz2]; exact rfl); (case ht => exact pT); (case hn => exact nT); (try case hc => exact rfl); (case h => exact h.out))
      | ((with_reducible first | apply AO_mvE | apply V_mvE | apply D_mvE); (case hop => exact rfl); (case hg => exact gT); (try case hw => exact rfl); (try case hl => exact tT); (case hy => exact rfl); (case ht => exact pT); (case hn => exact nT); (try case hc => exact rfl); (case h => exact h.out))
      | ((with_reducible first | apply AO_stepE | apply V_stepE | apply D_stepE); (case hg => exact gT); (try case hw => exact rfl); (try case hl => exact tT); (case hs => simp (maxSteps := 2000000) (disch := omega) only [go_sem, zz1, zz2]; exact rfl); (case ht => exact pT); (case hn => exact nT); (try case hc => exact rfl); (case h => exact h.out))
      | ((with_reducible first | apply AO_skipE | apply V_skipE | apply D_skipE); (case hg => exact gF); (case ht => exact pT); (case hn => exact nT); (try case hc => exact rfl); (case h => exact h.out))
      | fail) : p := h ⟨hq⟩
theorem Z3 {p q : Prop} (hq : q) (h : Held q → p := by
    intro h
    first
      | with_reducible first | exact W_seq h.out | exact W_block h.out | exact W_skip h.out | exact N_code h.out | exact N_blk h.out | exact W_exit h.out | exact E_code h.out | exact E_blk_ne (by decide) h.out | exact W_ret h.out | exact R_code h.out | exact R_blk h.out | exact L_ret h.out | exact F_ret h.out | exact F_out (by decide) h.out | exact FW_ret h.out | exact FW_out (by decide) h.out | exact R_nil h.out
      | ((with_reducible apply W_condT); (case hb => exact rfl); (case hw => with_reducible rfl); (case h => exact h.out))
      | ((with_reducible apply W_condF); (case hb => exact rfl); (case hw => with_reducible rfl); (case h => exact h.out))
      | ((with_reducible apply D_admE); (case hop => exact rfl); (case ha => exact rfl); (case hna => exact rfl); (try case hl => exact tT); (case hg => exact gT); (case hy => exact rfl); (case ht => exact pT); (case hn => exact nT); (try case hc => exact rfl); (case h => exact h.out))
      | ((with_reducible apply D_adrE); (case ha => exact rfl); (case hna => exact rfl); (try case hl => exact tT); (case hg => exact gT); (case hs => simp (maxSteps := 2000000) (disch := omega) only [go_sem, zz1, zz2, zz3]; exact rfl); (case ht => exact pT); (case hn => exact nT); (try case hc => exact rfl); (case h => exact h.out))
      | ((with_reducible first | apply AO_mvE | apply V_mvE | apply D_mvE); (case hop => exact rfl); (case hg => exact gT); (try case hw => exact rfl); (try case hl => exact tT); (case hy => exact rfl); (case ht => exact pT); (case hn => exact nT); (try case hc => exact rfl); (case h => exact h.out))
      | ((with_reducible first | apply AO_stepE | apply V_stepE | apply D_stepE); (case hg => exact gT); (try case hw => exact rfl); (try case hl => exact tT); (case hs => simp (maxSteps := 2000000) (disch := omega) only [go_sem, zz1, zz2, zz3]; exact rfl); (case ht => exact pT); (case hn => exact nT); (try case hc => exact rfl); (case h => exact h.out))
      | ((with_reducible first | apply AO_skipE | apply V_skipE | apply D_skipE); (case hg => exact gF); (case ht => exact pT); (case hn => exact nT); (try case hc => exact rfl); (case h => exact h.out))
      | fail) : p := h ⟨hq⟩
theorem Z4 {p q : Prop} (hq : q) (h : Held q → p := by
    intro h
    first
      | with_reducible first | exact W_seq h.out | exact W_block h.out | exact W_skip h.out | exact N_code h.out | exact N_blk h.out | exact W_exit h.out | exact E_code h.out | exact E_blk_ne (by decide) h.out | exact W_ret h.out | exact R_code h.out | exact R_blk h.out | exact L_ret h.out | exact F_ret h.out | exact F_out (by decide) h.out | exact FW_ret h.out | exact FW_out (by decide) h.out | exact R_nil h.out
      | ((with_reducible apply W_condT); (case hb => exact rfl); (case hw => with_reducible rfl); (case h => exact h.out))
      | ((with_reducible apply W_condF); (case hb => exact rfl); (case hw => with_reducible rfl); (case h => exact h.out))
      | ((with_reducible apply D_admE); (case hop => exact rfl); (case ha => exact rfl); (case hna => exact rfl); (try case hl => exact tT); (case hg => exact gT); (case hy => exact rfl); (case ht => exact pT); (case hn => exact nT); (try case hc => exact rfl); (case h => exact h.out))
      | ((with_reducible apply D_adrE); (case ha => exact rfl); (case hna => exact rfl); (try case hl => exact tT); (case hg => exact gT); (case hs => simp (maxSteps := 2000000) (disch := omega) only [go_sem, zz1, zz2, zz3, zz4]; exact rfl); (case ht => exact pT); (case hn => exact nT); (try case hc => exact rfl); (case h => exact h.out))
      | ((with_reducible first | apply AO_mvE | apply V_mvE | apply D_mvE); (case hop => exact rfl); (case hg => exact gT); (try case hw => exact rfl); (try case hl => exact tT); (case hy => exact rfl); (case ht => exact pT); (case hn => exact nT); (try case hc => exact rfl); (case h => exact h.out))
      | ((with_reducible first | apply AO_stepE | apply V_stepE | apply D_stepE); (case hg => exact gT); (try case hw => exact rfl); (try case hl => exact tT); (case hs => simp (maxSteps := 2000000) (disch := omega) only [go_sem, zz1, zz2, zz3, zz4]; exact rfl); (case ht => exact pT); (case hn => exact nT); (try case hc => exact rfl); (case h => exact h.out))
      | ((with_reducible first | apply AO_skipE | apply V_skipE | apply D_skipE); (case hg => exact gF); (case ht => exact pT); (case hn => exact nT); (try case hc => exact rfl); (case h => exact h.out))
      | fail) : p := h ⟨hq⟩
theorem Z5 {p q : Prop} (hq : q) (h : Held q → p := by
    intro h
    first
      | with_reducible first | exact W_seq h.out | exact W_block h.out | exact W_skip h.out | exact N_code h.out | exact N_blk h.out | exact W_exit h.out | exact E_code h.out | exact E_blk_ne (by decide) h.out | exact W_ret h.out | exact R_code h.out | exact R_blk h.out | exact L_ret h.out | exact F_ret h.out | exact F_out (by decide) h.out | exact FW_ret h.out | exact FW_out (by decide) h.out | exact R_nil h.out
      | ((with_reducible apply W_condT); (case hb => exact rfl); (case hw => with_reducible rfl); (case h => exact h.out))
      | ((with_reducible apply W_condF); (case hb => exact rfl); (case hw => with_reducible rfl); (case h => exact h.out))
      | ((with_reducible apply D_admE); (case hop => exact rfl); (case ha => exact rfl); (case hna => exact rfl); (try case hl => exact tT); (case hg => exact gT); (case hy => exact rfl); (case ht => exact pT); (case hn => exact nT); (try case hc => exact rfl); (case h => exact h.out))
      | ((with_reducible apply D_adrE); (case ha => exact rfl); (case hna => exact rfl); (try case hl => exact tT); (case hg => exact gT); (case hs => simp (maxSteps := 2000000) (disch := omega) only [go_sem, zz1, zz2, zz3, zz4, zz5]; exact rfl); (case ht => exact pT); (case hn => exact nT); (try case hc => exact rfl); (case h => exact h.out))
      | ((with_reducible first | apply AO_mvE | apply V_mvE | apply D_mvE); (case hop => exact rfl); (case hg => exact gT); (try case hw => exact rfl); (try case hl => exact tT); (case hy => exact rfl); (case ht => exact pT); (case hn => exact nT); (try case hc => exact rfl); (case h => exact h.out))
      | ((with_reducible first | apply AO_stepE | apply V_stepE | apply D_stepE); (case hg => exact gT); (try case hw => exact rfl); (try case hl => exact tT); (case hs => simp (maxSteps := 2000000) (disch := omega) only [go_sem, zz1, zz2, zz3, zz4, zz5]; exact rfl); (case ht => exact pT); (case hn => exact nT); (try case hc => exact rfl); (case h => exact h.out))
      | ((with_reducible first | apply AO_skipE | apply V_skipE | apply D_skipE); (case hg => exact gF); (case ht => exact pT); (case hn => exact nT); (try case hc => exact rfl); (case h => exact h.out))
      | fail) : p := h ⟨hq⟩
theorem Z6 {p q : Prop} (hq : q) (h : Held q → p := by
    intro h
    first
      | with_reducible first | exact W_seq h.out | exact W_block h.out | exact W_skip h.out | exact N_code h.out | exact N_blk h.out | exact W_exit h.out | exact E_code h.out | exact E_blk_ne (by decide) h.out | exact W_ret h.out | exact R_code h.out | exact R_blk h.out | exact L_ret h.out | exact F_ret h.out | exact F_out (by decide) h.out | exact FW_ret h.out | exact FW_out (by decide) h.out | exact R_nil h.out
      | ((with_reducible apply W_condT); (case hb => exact rfl); (case hw => with_reducible rfl); (case h => exact h.out))
      | ((with_reducible apply W_condF); (case hb => exact rfl); (case hw => with_reducible rfl); (case h => exact h.out))
      | ((with_reducible apply D_admE); (case hop => exact rfl); (case ha => exact rfl); (case hna => exact rfl); (try case hl => exact tT); (case hg => exact gT); (case hy => exact rfl); (case ht => exact pT); (case hn => exact nT); (try case hc => exact rfl); (case h => exact h.out))
      | ((with_reducible apply D_adrE); (case ha => exact rfl); (case hna => exact rfl); (try case hl => exact tT); (case hg => exact gT); (case hs => simp (maxSteps := 2000000) (disch := omega) only [go_sem, zz1, zz2, zz3, zz4, zz5, zz6]; exact rfl); (case ht => exact pT); (case hn => exact nT); (try case hc => exact rfl); (case h => exact h.out))
      | ((with_reducible first | apply AO_mvE | apply V_mvE | apply D_mvE); (case hop => exact rfl); (case hg => exact gT); (try case hw => exact rfl); (try case hl => exact tT); (case hy => exact rfl); (case ht => exact pT); (case hn => exact nT); (try case hc => exact rfl); (case h => exact h.out))
      | ((with_reducible first | apply AO_stepE | apply V_stepE | apply D_stepE); (case hg => exact gT); (try case hw => exact rfl); (try case hl => exact tT); (case hs => simp (maxSteps := 2000000) (disch := omega) only [go_sem, zz1, zz2, zz3, zz4, zz5, zz6]; exact rfl); (case ht => exact pT); (case hn => exact nT); (try case hc => exact rfl); (case h => exact h.out))
      | ((with_reducible first | apply AO_skipE | apply V_skipE | apply D_skipE); (case hg => exact gF); (case ht => exact pT); (case hn => exact nT); (try case hc => exact rfl); (case h => exact h.out))
      | fail) : p := h ⟨hq⟩
theorem Z7 {p q : Prop} (hq : q) (h : Held q → p := by
    intro h
    first
      | with_reducible first | exact W_seq h.out | exact W_block h.out | exact W_skip h.out | exact N_code h.out | exact N_blk h.out | exact W_exit h.out | exact E_code h.out | exact E_blk_ne (by decide) h.out | exact W_ret h.out | exact R_code h.out | exact R_blk h.out | exact L_ret h.out | exact F_ret h.out | exact F_out (by decide) h.out | exact FW_ret h.out | exact FW_out (by decide) h.out | exact R_nil h.out
      | ((with_reducible apply W_condT); (case hb => exact rfl); (case hw => with_reducible rfl); (case h => exact h.out))
      | ((with_reducible apply W_condF); (case hb => exact rfl); (case hw => with_reducible rfl); (case h => exact h.out))
      | ((with_reducible apply D_admE); (case hop => exact rfl); (case ha => exact rfl); (case hna => exact rfl); (try case hl => exact tT); (case hg => exact gT); (case hy => exact rfl); (case ht => exact pT); (case hn => exact nT); (try case hc => exact rfl); (case h => exact h.out))
      | ((with_reducible apply D_adrE); (case ha => exact rfl); (case hna => exact rfl); (try case hl => exact tT); (case hg => exact gT); (case hs => simp (maxSteps := 2000000) (disch := omega) only [go_sem, zz1, zz2, zz3, zz4, zz5, zz6, zz7]; exact rfl); (case ht => exact pT); (case hn => exact nT); (try case hc => exact rfl); (case h => exact h.out))
      | ((with_reducible first | apply AO_mvE | apply V_mvE | apply D_mvE); (case hop => exact rfl); (case hg => exact gT); (try case hw => exact rfl); (try case hl => exact tT); (case hy => exact rfl); (case ht => exact pT); (case hn => exact nT); (try case hc => exact rfl); (case h => exact h.out))
      | ((with_reducible first | apply AO_stepE | apply V_stepE | apply D_stepE); (case hg => exact gT); (try case hw => exact rfl); (try case hl => exact tT); (case hs => simp (maxSteps := 2000000) (disch := omega) only [go_sem, zz1, zz2, zz3, zz4, zz5, zz6, zz7]; exact rfl); (case ht => exact pT); (case hn => exact nT); (try case hc => exact rfl); (case h => exact h.out))
      | ((with_reducible first | apply AO_skipE | apply V_skipE | apply D_skipE); (case hg => exact gF); (case ht => exact pT); (case hn => exact nT); (try case hc => exact rfl); (case h => exact h.out))
      | fail) : p := h ⟨hq⟩
theorem Z8 {p q : Prop} (hq : q) (h : Held q → p := by
    intro h
    first
      | with_reducible first | exact W_seq h.out | exact W_block h.out | exact W_skip h.out | exact N_code h.out | exact N_blk h.out | exact W_exit h.out | exact E_code h.out | exact E_blk_ne (by decide) h.out | exact W_ret h.out | exact R_code h.out | exact R_blk h.out | exact L_ret h.out | exact F_ret h.out | exact F_out (by decide) h.out | exact FW_ret h.out | exact FW_out (by decide) h.out | exact R_nil h.out
      | ((with_reducible apply W_condT); (case hb => exact rfl); (case hw => with_reducible rfl); (case h => exact h.out))
      | ((with_reducible apply W_condF); (case hb => exact rfl); (case hw => with_reducible rfl); (case h => exact h.out))
      | ((with_reducible apply D_admE); (case hop => exact rfl); (case ha => exact rfl); (case hna => exact rfl); (try case hl => exact tT); (case hg => exact gT); (case hy => exact rfl); (case ht => exact pT); (case hn => exact nT); (try case hc => exact rfl); (case h => exact h.out))
      | ((with_reducible apply D_adrE); (case ha => exact rfl); (case hna => exact rfl); (try case hl => exact tT); (case hg => exact gT); (case hs => simp (maxSteps := 2000000) (disch := omega) only [go_sem, zz1, zz2, zz3, zz4, zz5, zz6, zz7, zz8]; exact rfl); (case ht => exact pT); (case hn => exact nT); (try case hc => exact rfl); (case h => exact h.out))
      | ((with_reducible first | apply AO_mvE | apply V_mvE | apply D_mvE); (case hop => exact rfl); (case hg => exact gT); (try case hw => exact rfl); (try case hl => exact tT); (case hy => exact rfl); (case ht => exact pT); (case hn => exact nT); (try case hc => exact rfl); (case h => exact h.out))
      | ((with_reducible first | apply AO_stepE | apply V_stepE | apply D_stepE); (case hg => exact gT); (try case hw => exact rfl); (try case hl => exact tT); (case hs => simp (maxSteps := 2000000) (disch := omega) only [go_sem, zz1, zz2, zz3, zz4, zz5, zz6, zz7, zz8]; exact rfl); (case ht => exact pT); (case hn => exact nT); (try case hc => exact rfl); (case h => exact h.out))
      | ((with_reducible first | apply AO_skipE | apply V_skipE | apply D_skipE); (case hg => exact gF); (case ht => exact pT); (case hn => exact nT); (try case hc => exact rfl); (case h => exact h.out))
      | fail) : p := h ⟨hq⟩
theorem Z9 {p q : Prop} (hq : q) (h : Held q → p := by
    intro h
    first
      | with_reducible first | exact W_seq h.out | exact W_block h.out | exact W_skip h.out | exact N_code h.out | exact N_blk h.out | exact W_exit h.out | exact E_code h.out | exact E_blk_ne (by decide) h.out | exact W_ret h.out | exact R_code h.out | exact R_blk h.out | exact L_ret h.out | exact F_ret h.out | exact F_out (by decide) h.out | exact FW_ret h.out | exact FW_out (by decide) h.out | exact R_nil h.out
      | ((with_reducible apply W_condT); (case hb => exact rfl); (case hw => with_reducible rfl); (case h => exact h.out))
      | ((with_reducible apply W_condF); (case hb => exact rfl); (case hw => with_reducible rfl); (case h => exact h.out))
      | ((with_reducible apply D_admE); (case hop => exact rfl); (case ha => exact rfl); (case hna => exact rfl); (try case hl => exact tT); (case hg => exact gT); (case hy => exact rfl); (case ht => exact pT); (case hn => exact nT); (try case hc => exact rfl); (case h => exact h.out))
      | ((with_reducible apply D_adrE); (case ha => exact rfl); (case hna => exact rfl); (try case hl => exact tT); (case hg => exact gT); (case hs => simp (maxSteps := 2000000) (disch := omega) only [go_sem, zz1, zz2, zz3, zz4, zz5, zz6, zz7, zz8, zz9]; exact rfl); (case ht => exact pT); (case hn => exact nT); (try case hc => exact rfl); (case h => exact h.out))
      | ((with_reducible first | apply AO_mvE | apply V_mvE | apply D_mvE); (case hop => exact rfl); (case hg => exact gT); (try case hw => exact rfl); (try case hl => exact tT); (case hy => exact rfl); (case ht => exact pT); (case hn => exact nT); (try case hc => exact rfl); (case h => exact h.out))
      | ((with_reducible first | apply AO_stepE | apply V_stepE | apply D_stepE); (case hg => exact gT); (try case hw => exact rfl); (try case hl => exact tT); (case hs => simp (maxSteps := 2000000) (disch := omega) only [go_sem, zz1, zz2, zz3, zz4, zz5, zz6, zz7, zz8, zz9]; exact rfl); (case ht => exact pT); (case hn => exact nT); (try case hc => exact rfl); (case h => exact h.out))
      | ((with_reducible first | apply AO_skipE | apply V_skipE | apply D_skipE); (case hg => exact gF); (case ht => exact pT); (case hn => exact nT); (try case hc => exact rfl); (case h => exact h.out))
      | fail) : p := h ⟨hq⟩
theorem Z10 {p q : Prop} (hq : q) (h : Held q → p := by
    intro h
    first
      | with_reducible first | exact W_seq h.out | exact W_block h.out | exact W_skip h.out | exact N_code h.out | exact N_blk h.out | exact W_exit h.out | exact E_code h.out | exact E_blk_ne (by decide) h.out | exact W_ret h.out | exact R_code h.out | exact R_blk h.out | exact L_ret h.out | exact F_ret h.out | exact F_out (by decide) h.out | exact FW_ret h.out | exact FW_out (by decide) h.out | exact R_nil h.out
      | ((with_reducible apply W_condT); (case hb => exact rfl); (case hw => with_reducible rfl); (case h => exact h.out))
      | ((with_reducible apply W_condF); (case hb => exact rfl); (case hw => with_reducible rfl); (case h => exact h.out))
      | ((with_reducible apply D_admE); (case hop => exact rfl); (case ha => exact rfl); (case hna => exact rfl); (try case hl => exact tT); (case hg => exact gT); (case hy => exact rfl); (case ht => exact pT); (case hn => exact nT); (try case hc => exact rfl); (case h => exact h.out))
      | ((with_reducible apply D_adrE); (case ha => exact rfl); (case hna => exact rfl); (try case hl => exact tT); (case hg => exact gT); (case hs => simp (maxSteps := 2000000) (disch := omega) only [go_sem, zz1, zz2, zz3, zz4, zz5, zz6, zz7, zz8, zz9, zz10]; exact rfl); (case ht => exact pT); (case hn => exact nT); (try case hc => exact rfl); (case h => exact h.out))
      | ((with_reducible first | apply AO_mvE | apply V_mvE | apply D_mvE); (case hop => exact rfl); (case hg => exact gT); (try case hw => exact rfl); (try case hl => exact tT); (case hy => exact rfl); (case ht => exact pT); (case hn => exact nT); (try case hc => exact rfl); (case h => exact h.out))
      | ((with_reducible first | apply AO_stepE | apply V_stepE | apply D_stepE); (case hg => exact gT); (try case hw => exact rfl); (try case hl => exact tT); (case hs => simp (maxSteps := 2000000) (disch := omega) only [go_sem, zz1, zz2, zz3, zz4, zz5, zz6, zz7, zz8, zz9, zz10]; exact rfl); (case ht => exact pT); (case hn => exact nT); (try case hc => exact rfl); (case h => exact h.out))
      | ((with_reducible first | apply AO_skipE | apply V_skipE | apply D_skipE); (case hg => exact gF); (case ht => exact pT); (case hn => exact nT); (try case hc => exact rfl); (case h => exact h.out))
      | fail) : p := h ⟨hq⟩
theorem Z11 {p q : Prop} (hq : q) (h : Held q → p := by
    intro h
    first
      | with_reducible first | exact W_seq h.out | exact W_block h.out | exact W_skip h.out | exact N_code h.out | exact N_blk h.out | exact W_exit h.out | exact E_code h.out | exact E_blk_ne (by decide) h.out | exact W_ret h.out | exact R_code h.out | exact R_blk h.out | exact L_ret h.out | exact F_ret h.out | exact F_out (by decide) h.out | exact FW_ret h.out | exact FW_out (by decide) h.out | exact R_nil h.out
      | ((with_reducible apply W_condT); (case hb => exact rfl); (case hw => with_reducible rfl); (case h => exact h.out))
      | ((with_reducible apply W_condF); (case hb => exact rfl); (case hw => with_reducible rfl); (case h => exact h.out))
      | ((with_reducible apply D_admE); (case hop => exact rfl); (case ha => exact rfl); (case hna => exact rfl); (try case hl => exact tT); (case hg => exact gT); (case hy => exact rfl); (case ht => exact pT); (case hn => exact nT); (try case hc => exact rfl); (case h => exact h.out))
      | ((with_reducible apply D_adrE); (case ha => exact rfl); (case hna => exact rfl); (try case hl => exact tT); (case hg => exact gT); (case hs => simp (maxSteps := 2000000) (disch := omega) only [go_sem, zz1, zz2, zz3, zz4, zz5, zz6, zz7, zz8, zz9, zz10, zz11]; exact rfl); (case ht => exact pT); (case hn => exact nT); (try case hc => exact rfl); (case h => exact h.out))
      | ((with_reducible first | apply AO_mvE | apply V_mvE | apply D_mvE); (case hop => exact rfl); (case hg => exact gT); (try case hw => exact rfl); (try case hl => exact tT); (case hy => exact rfl); (case ht => exact pT); (case hn => exact nT); (try case hc => exact rfl); (case h => exact h.out))
      | ((with_reducible first | apply AO_stepE | apply V_stepE | apply D_stepE); (case hg => exact gT); (try case hw => exact rfl); (try case hl => exact tT); (case hs => simp (maxSteps := 2000000) (disch := omega) only [go_sem, zz1, zz2, zz3, zz4, zz5, zz6, zz7, zz8, zz9, zz10, zz11]; exact rfl); (case ht => exact pT); (case hn => exact nT); (try case hc => exact rfl); (case h => exact h.out))
      | ((with_reducible first | apply AO_skipE | apply V_skipE | apply D_skipE); (case hg => exact gF); (case ht => exact pT); (case hn => exact nT); (try case hc => exact rfl); (case h => exact h.out))
      | fail) : p := h ⟨hq⟩
theorem Z12 {p q : Prop} (hq : q) (h : Held q → p := by
    intro h
    first
      | with_reducible first | exact W_seq h.out | exact W_block h.out | exact W_skip h.out | exact N_code h.out | exact N_blk h.out | exact W_exit h.out | exact E_code h.out | exact E_blk_ne (by decide) h.out | exact W_ret h.out | exact R_code h.out | exact R_blk h.out | exact L_ret h.out | exact F_ret h.out | exact F_out (by decide) h.out | exact FW_ret h.out | exact FW_out (by decide) h.out | exact R_nil h.out
      | ((with_reducible apply W_condT); (case hb => exact rfl); (case hw => with_reducible rfl); (case h => exact h.out))
      | ((with_reducible apply W_condF); (case hb => exact rfl); (case hw => with_reducible rfl); (case h => exact h.out))
      | ((with_reducible apply D_admE); (case hop => exact rfl); (case ha => exact rfl); (case hna => exact rfl); (try case hl => exact tT); (case hg => exact gT); (case hy => exact rfl); (case ht => exact pT); (case hn => exact nT); (try case hc => exact rfl); (case h => exact h.out))
      | ((with_reducible apply D_adrE); (case ha => exact rfl); (case hna => exact rfl); (try case hl => exact tT); (case hg => exact gT); (case hs => simp (maxSteps := 2000000) (disch := omega) only [go_sem, zz1, zz2, zz3, zz4, zz5, zz6, zz7, zz8, zz9, zz10, zz11, zz12]; exact rfl); (case ht => exact pT); (case hn => exact nT); (try case hc => exact rfl); (case h => exact h.out))
      | ((with_reducible first | apply AO_mvE | apply V_mvE | apply D_mvE); (case hop => exact rfl); (case hg => exact gT); (try case hw => exact rfl); (try case hl => exact tT); (case hy => exact rfl); (case ht => exact pT); (case hn => exact nT); (try case hc => exact rfl); (case h => exact h.out))
      | ((with_reducible first | apply AO_stepE | apply V_stepE | apply D_stepE); (case hg => exact gT); (try case hw => exact rfl); (try case hl => exact tT); (case hs => simp (maxSteps := 2000000) (disch := omega) only [go_sem, zz1, zz2, zz3, zz4, zz5, zz6, zz7, zz8, zz9, zz10, zz11, zz12]; exact rfl); (case ht => exact pT); (case hn => exact nT); (try case hc => exact rfl); (case h => exact h.out))
      | ((with_reducible first | apply AO_skipE | apply V_skipE | apply D_skipE); (case hg => exact gF); (case ht => exact pT); (case hn => exact nT); (try case hc => exact rfl); (case h => exact h.out))
      | fail) : p := h ⟨hq⟩
theorem Z13 {p q : Prop} (hq : q) (h : Held q → p := by
    intro h
    first
      | with_reducible first | exact W_seq h.out | exact W_block h.out | exact W_skip h.out | exact N_code h.out | exact N_blk h.out | exact W_exit h.out | exact E_code h.out | exact E_blk_ne (by decide) h.out | exact W_ret h.out | exact R_code h.out | exact R_blk h.out | exact L_ret h.out | exact F_ret h.out | exact F_out (by decide) h.out | exact FW_ret h.out | exact FW_out (by decide) h.out | exact R_nil h.out
      | ((with_reducible apply W_condT); (case hb => exact rfl); (case hw => with_reducible rfl); (case h => exact h.out))
      | ((with_reducible apply W_condF); (case hb => exact rfl); (case hw => with_reducible rfl); (case h => exact h.out))
      | ((with_reducible apply D_admE); (case hop => exact rfl); (case ha => exact rfl); (case hna => exact rfl); (try case hl => exact tT); (case hg => exact gT); (case hy => exact rfl); (case ht => exact pT); (case hn => exact nT); (try case hc => exact rfl); (case h => exact h.out))
      | ((with_reducible apply D_adrE); (case ha => exact rfl); (case hna => exact rfl); (try case hl => exact tT); (case hg => exact gT); (case hs => simp (maxSteps := 2000000) (disch := omega) only [go_sem, zz1, zz2, zz3, zz4, zz5, zz6, zz7, zz8, zz9, zz10, zz11, zz12, zz13]; exact rfl); (case ht => exact pT); (case hn => exact nT); (try case hc => exact rfl); (case h => exact h.out))
      | ((with_reducible first | apply AO_mvE | apply V_mvE | apply D_mvE); (case hop => exact rfl); (case hg => exact gT); (try case hw => exact rfl); (try case hl => exact tT); (case hy => exact rfl); (case ht => exact pT); (case hn => exact nT); (try case hc => exact rfl); (case h => exact h.out))
      | ((with_reducible first | apply AO_stepE | apply V_stepE | apply D_stepE); (case hg => exact gT); (try case hw => exact rfl); (try case hl => exact tT); (case hs => simp (maxSteps := 2000000) (disch := omega) only [go_sem, zz1, zz2, zz3, zz4, zz5, zz6, zz7, zz8, zz9, zz10, zz11, zz12, zz13]; exact rfl); (case ht => exact pT); (case hn => exact nT); (try case hc => exact rfl); (case h => exact h.out))
      | ((with_reducible first | apply AO_skipE | apply V_skipE | apply D_skipE); (case hg => exact gF); (case ht => exact pT); (case hn => exact nT); (try case hc => exact rfl); (case h => exact h.out))
      | fail) : p := h ⟨hq⟩
theorem Z14 {p q : Prop} (hq : q) (h : Held q → p := by
    intro h
    first
      | with_reducible first | exact W_seq h.out | exact W_block h.out | exact W_skip h.out | exact N_code h.out | exact N_blk h.out | exact W_exit h.out | exact E_code h.out | exact E_blk_ne (by decide) h.out | exact W_ret h.out | exact R_code h.out | exact R_blk h.out | exact L_ret h.out | exact F_ret h.out | exact F_out (by decide) h.out | exact FW_ret h.out | exact FW_out (by decide) h.out | exact R_nil h.out
      | ((with_reducible apply W_condT); (case hb => exact rfl); (case hw => with_reducible rfl); (case h => exact h.out))
      | ((with_reducible apply W_condF); (case hb => exact rfl); (case hw => with_reducible rfl); (case h => exact h.out))
      | ((with_reducible apply D_admE); (case hop => exact rfl); (case ha => exact rfl); (case hna => exact rfl); (try case hl => exact tT); (case hg => exact gT); (case hy => exact rfl); (case ht => exact pT); (case hn => exact nT); (try case hc => exact rfl); (case h => exact h.out))
      | ((with_reducible apply D_adrE); (case ha => exact rfl); (case hna => exact rfl); (try case hl => exact tT); (case hg => exact gT); (case hs => simp (maxSteps := 2000000) (disch := omega) only [go_sem, zz1, zz2, zz3, zz4, zz5, zz6, zz7, zz8, zz9, zz10, zz11, zz12, zz13, zz14]; exact rfl); (case ht => exact pT); (case hn => exact nT); (try case hc => exact rfl); (case h => exact h.out))
      | ((with_reducible first | apply AO_mvE | apply V_mvE | apply D_mvE); (case hop => exact rfl); (case hg => exact gT); (try case hw => exact rfl); (try case hl => exact tT); (case hy => exact rfl); (case ht => exact pT); (case hn => exact nT); (try case hc => exact rfl); (case h => exact h.out))
      | ((with_reducible first | apply AO_stepE | apply V_stepE | apply D_stepE); (case hg => exact gT); (try case hw => exact rfl); (try case hl => exact tT); (case hs => simp (maxSteps := 2000000) (disch := omega) only [go_sem, zz1, zz2, zz3, zz4, zz5, zz6, zz7, zz8, zz9, zz10, zz11, zz12, zz13, zz14]; exact rfl); (case ht => exact pT); (case hn => exact nT); (try case hc => exact rfl); (case h => exact h.out))
      | ((with_reducible first | apply AO_skipE | apply V_skipE | apply D_skipE); (case hg => exact gF); (case ht => exact pT); (case hn => exact nT); (try case hc => exact rfl); (case h => exact h.out))
      | fail) : p := h ⟨hq⟩
theorem Z15 {p q : Prop} (hq : q) (h : Held q → p := by
    intro h
    first
      | with_reducible first | exact W_seq h.out | exact W_block h.out | exact W_skip h.out | exact N_code h.out | exact N_blk h.out | exact W_exit h.out | exact E_code h.out | exact E_blk_ne (by decide) h.out | exact W_ret h.out | exact R_code h.out | exact R_blk h.out | exact L_ret h.out | exact F_ret h.out | exact F_out (by decide) h.out | exact FW_ret h.out | exact FW_out (by decide) h.out | exact R_nil h.out
      | ((with_reducible apply W_condT); (case hb => exact rfl); (case hw => with_reducible rfl); (case h => exact h.out))
      | ((with_reducible apply W_condF); (case hb => exact rfl); (case hw => with_reducible rfl); (case h => exact h.out))
      | ((with_reducible apply D_admE); (case hop => exact rfl); (case ha => exact rfl); (case hna => exact rfl); (try case hl => exact tT); (case hg => exact gT); (case hy => exact rfl); (case ht => exact pT); (case hn => exact nT); (try case hc => exact rfl); (case h => exact h.out))
      | ((with_reducible apply D_adrE); (case ha => exact rfl); (case hna => exact rfl); (try case hl => exact tT); (case hg => exact gT); (case hs => simp (maxSteps := 2000000) (disch := omega) only [go_sem, zz1, zz2, zz3, zz4, zz5, zz6, zz7, zz8, zz9, zz10, zz11, zz12, zz13, zz14, zz15]; exact rfl); (case ht => exact pT); (case hn => exact nT); (try case hc => exact rfl); (case h => exact h.out))
      | ((with_reducible first | apply AO_mvE | apply V_mvE | apply D_mvE); (case hop => exact rfl); (case hg => exact gT); (try case hw => exact rfl); (try case hl => exact tT); (case hy => exact rfl); (case ht => exact pT); (case hn => exact nT); (try case hc => exact rfl); (case h => exact h.out))
      | ((with_reducible first | apply AO_stepE | apply V_stepE | apply D_stepE); (case hg => exact gT); (try case hw => exact rfl); (try case hl => exact tT); (case hs => simp (maxSteps := 2000000) (disch := omega) only [go_sem, zz1, zz2, zz3, zz4, zz5, zz6, zz7, zz8, zz9, zz10, zz11, zz12, zz13, zz14, zz15]; exact rfl); (case ht => exact pT); (case hn => exact nT); (try case hc => exact rfl); (case h => exact h.out))
      | ((with_reducible first | apply AO_skipE | apply V_skipE | apply D_skipE); (case hg => exact gF); (case ht => exact pT); (case hn => exact nT); (try case hc => exact rfl); (case h => exact h.out))
      | fail) : p := h ⟨hq⟩
theorem Z16 {p q : Prop} (hq : q) (h : Held q → p := by
    intro h
    first
      | with_reducible first | exact W_seq h.out | exact W_block h.out | exact W_skip h.out | exact N_code h.out | exact N_blk h.out | exact W_exit h.out | exact E_code h.out | exact E_blk_ne (by decide) h.out | exact W_ret h.out | exact R_code h.out | exact R_blk h.out | exact L_ret h.out | exact F_ret h.out | exact F_out (by decide) h.out | exact FW_ret h.out | exact FW_out (by decide) h.out | exact R_nil h.out
      | ((with_reducible apply W_condT); (case hb => exact rfl); (case hw => with_reducible rfl); (case h => exact h.out))
      | ((with_reducible apply W_condF); (case hb => exact rfl); (case hw => with_reducible rfl); (case h => exact h.out))
      | ((with_reducible apply D_admE); (case hop => exact rfl); (case ha => exact rfl); (case hna => exact rfl); (try case hl => exact tT); (case hg => exact gT); (case hy => exact rfl); (case ht => exact pT); (case hn => exact nT); (try case hc => exact rfl); (case h => exact h.out))
      | ((with_reducible apply D_adrE); (case ha => exact rfl); (case hna => exact rfl); (try case hl => exact tT); (case hg => exact gT); (case hs => simp (maxSteps := 2000000) (disch := omega) only [go_sem, zz1, zz2, zz3, zz4, zz5, zz6, zz7, zz8, zz9, zz10, zz11, zz12, zz13, zz14, zz15, zz16]; exact rfl); (case ht => exact pT); (case hn => exact nT); (try case hc => exact rfl); (case h => exact h.out))
      | ((with_reducible first | apply AO_mvE | apply V_mvE | apply D_mvE); (case hop => exact rfl); (case hg => exact gT); (try case hw => exact rfl); (try case hl => exact tT); (case hy => exact rfl); (case ht => exact pT); (case hn => exact nT); (try case hc => exact rfl); (case h => exact h.out))
      | ((with_reducible first | apply AO_stepE | apply V_stepE | apply D_stepE); (case hg => exact gT); (try case hw => exact rfl); (try case hl => exact tT); (case hs => simp (maxSteps := 2000000) (disch := omega) only [go_sem, zz1, zz2, zz3, zz4, zz5, zz6, zz7, zz8, zz9, zz10, zz11, zz12, zz13, zz14, zz15, zz16]; exact rfl); (case ht => exact pT); (case hn => exact nT); (try case hc => exact rfl); (case h => exact h.out))
      | ((with_reducible first | apply AO_skipE | apply V_skipE | apply D_skipE); (case hg => exact gF); (case ht => exact pT); (case hn => exact nT); (try case hc => exact rfl); (case h => exact h.out))
      | fail) : p := h ⟨hq⟩
theorem Z17 {p q : Prop} (hq : q) (h : Held q → p := by
    intro h
    first
      | with_reducible first | exact W_seq h.out | exact W_block h.out | exact W_skip h.out | exact N_code h.out | exact N_blk h.out | exact W_exit h.out | exact E_code h.out | exact E_blk_ne (by decide) h.out | exact W_ret h.out | exact R_code h.out | exact R_blk h.out | exact L_ret h.out | exact F_ret h.out | exact F_out (by decide) h.out | exact FW_ret h.out | exact FW_out (by decide) h.out | exact R_nil h.out
      | ((with_reducible apply W_condT); (case hb => exact rfl); (case hw => with_reducible rfl); (case h => exact h.out))
      | ((with_reducible apply W_condF); (case hb => exact rfl); (case hw => with_reducible rfl); (case h => exact h.out))
      | ((with_reducible apply D_admE); (case hop => exact rfl); (case ha => exact rfl); (case hna => exact rfl); (try case hl => exact tT); (case hg => exact gT); (case hy => exact rfl); (case ht => exact pT); (case hn => exact nT); (try case hc => exact rfl); (case h => exact h.out))
      | ((with_reducible apply D_adrE); (case ha => exact rfl); (case hna => exact rfl); (try case hl => exact tT); (case hg => exact gT); (case hs => simp (maxSteps := 2000000) (disch := omega) only [go_sem, zz1, zz2, zz3, zz4, zz5, zz6, zz7, zz8, zz9, zz10, zz11, zz12, zz13, zz14, zz15, zz16, zz17]; exact rfl); (case ht => exact pT); (case hn => exact nT); (try case hc => exact rfl); (case h => exact h.out))
      | ((with_reducible first | apply AO_mvE | apply V_mvE | apply D_mvE); (case hop => exact rfl); (case hg => exact gT); (try case hw => exact rfl); (try case hl => exact tT); (case hy => exact rfl); (case ht => exact pT); (case hn => exact nT); (try case hc => exact rfl); (case h => exact h.out))
      | ((with_reducible first | apply AO_stepE | apply V_stepE | apply D_stepE); (case hg => exact gT); (try case hw => exact rfl); (try case hl => exact tT); (case hs => simp (maxSteps := 2000000) (disch := omega) only [go_sem, zz1, zz2, zz3, zz4, zz5, zz6, zz7, zz8, zz9, zz10, zz11, zz12, zz13, zz14, zz15, zz16, zz17]; exact rfl); (case ht => exact pT); (case hn => exact nT); (try case hc => exact rfl); (case h => exact h.out))
      | ((with_reducible first | apply AO_skipE | apply V_skipE | apply D_skipE); (case hg => exact gF); (case ht => exact pT); (case hn => exact nT); (try case hc => exact rfl); (case h => exact h.out))
      | fail) : p := h ⟨hq⟩
theorem Z18 {p q : Prop} (hq : q) (h : Held q → p := by
    intro h
    first
      | with_reducible first | exact W_seq h.out | exact W_block h.out | exact W_skip h.out | exact N_code h.out | exact N_blk h.out | exact W_exit h.out | exact E_code h.out | exact E_blk_ne (by decide) h.out | exact W_ret h.out | exact R_code h.out | exact R_blk h.out | exact L_ret h.out | exact F_ret h.out | exact F_out (by decide) h.out | exact FW_ret h.out | exact FW_out (by decide) h.out | exact R_nil h.out
      | ((with_reducible apply W_condT); (case hb => exact rfl); (case hw => with_reducible rfl); (case h => exact h.out))
      | ((with_reducible apply W_condF); (case hb => exact rfl); (case hw => with_reducible rfl); (case h => exact h.out))
      | ((with_reducible apply D_admE); (case hop => exact rfl); (case ha => exact rfl); (case hna => exact rfl); (try case hl => exact tT); (case hg => exact gT); (case hy => exact rfl); (case ht => exact pT); (case hn => exact nT); (try case hc => exact rfl); (case h => exact h.out))
      | ((with_reducible apply D_adrE); (case ha => exact rfl); (case hna => exact rfl); (try case hl => exact tT); (case hg => exact gT); (case hs => simp (maxSteps := 2000000) (disch := omega) only [go_sem, zz1, zz2, zz3, zz4, zz5, zz6, zz7, zz8, zz9, zz10, zz11, zz12, zz13, zz14, zz15, zz16, zz17, zz18]; exact rfl); (case ht => exact pT); (case hn => exact nT); (try case hc => exact rfl); (case h => exact h.out))
      | ((with_reducible first | apply AO_mvE | apply V_mvE | apply D_mvE); (case hop => exact rfl); (case hg => exact gT); (try case hw => exact rfl); (try case hl => exact tT); (case hy => exact rfl); (case ht => exact pT); (case hn => exact nT); (try case hc => exact rfl); (case h => exact h.out))
      | ((with_reducible first | apply AO_stepE | apply V_stepE | apply D_stepE); (case hg => exact gT); (try case hw => exact rfl); (try case hl => exact tT); (case hs => simp (maxSteps := 2000000) (disch := omega) only [go_sem, zz1, zz2, zz3, zz4, zz5, zz6, zz7, zz8, zz9, zz10, zz11, zz12, zz13, zz14, zz15, zz16, zz17, zz18]; exact rfl); (case ht => exact pT); (case hn => exact nT); (try case hc => exact rfl); (case h => exact h.out))
      | ((with_reducible first | apply AO_skipE | apply V_skipE | apply D_skipE); (case hg => exact gF); (case ht => exact pT); (case hn => exact nT); (try case hc => exact rfl); (case h => exact h.out))
      | fail) : p := h ⟨hq⟩
theorem Zx {p q : Prop} (hq : q) (h : Held q → p := by
    intro h
    first
      | with_reducible first | exact E_blk h.out | exact L_exit h.out
      | fail) : p := h ⟨hq⟩
theorem Zlit {p q : Prop} (hq : q) (h : Held q → p := by
    intro h
    first
      | ((with_reducible apply D_litE); (case hop => exact rfl); (case hg => exact gT); (case hst => first | rfl | (simp only [go_sem]; rfl)); (case hs => simp (maxSteps := 2000000) (disch := omega) only [go_sem]; exact rfl); (case hr => exact rfl); (case hn' => exact rfl); (case hz => exact .sl _ _ (by simp [Fz.int_iff, Fz.bool_iff, Fz.str_iff, Fz.agg_iff])); (case ht => exact pT); (case hn => exact nT); (case htc => exact rfl); (case h => exact h.out))
      | fail) : p := h ⟨hq⟩
theorem Ze {p q : Prop} (hq : q) (h : Held q → p := by
    intro h
    first
      | (with_reducible exact AO_nil (hK _ h.out))
      | ((with_reducible first | apply V_end | apply D_end); (case hi => exact rfl); (try case hind => kernel_rfl); (case hn => exact nT); with_reducible exact hK _ h.out)
      | fail) : p := h ⟨hq⟩
theorem Zc {p q : Prop} {A : Prop} (c : A) (hq : q) (h : A → Held q → p := by
    intro c h
    first
      | ((with_reducible first | apply AO_callE | apply V_callE | apply D_callE); (case hg => exact gT); (case ho => exact rfl); (case ht => exact rfl); (case hp' => exact c); (case htm => exact pT); (case hn => exact nT); (try case hc => exact rfl); (case h => exact h.out))
      | fail) : p := h c ⟨hq⟩
theorem Zu {p q : Prop} {A : Prop} (c : A) (hq : q) (h : A → Held q → p := by
    intro c h
    first
      | ((with_reducible first | apply AO_callUE | apply V_callUE | apply D_callUE); (case hg => exact gT); (case ho => exact rfl); (case ht => exact rfl); (case hc => exact c); (case hf => exact frT); (case htm => exact pT); (case hn => exact nT); (try case htc => exact rfl); (case h => exact h.out))
      | fail) : p := h c ⟨hq⟩
theorem Zn {p q : Prop} {A : Prop} (c : A) (hq : q) (h : A → Held q → p := by
    intro c h
    first
      | ((with_reducible apply AO_callNE); (case hg => exact gT); (case ho => exact rfl); (case ht => exact rfl); (case hc => exact c); (case hf => exact frT); (case hfl => first | exact .int _ _ | exact .bool _ | exact .str _ | exact Flat.two (.int _ _) (.bool _)); (case htm => exact pT); (case hn => exact nT); (case h => exact h.out))
      | fail) : p := h c ⟨hq⟩
theorem Zg {p q : Prop} {A : Prop} (c : A) (hq : q) (h : A → Held q → p := by
    intro c h
    first
      | ((with_reducible apply AO_callGE (hp' := [])); (case hg => exact gT); (case ho => exact rfl); (case ht => exact rfl); (case hc => exact c); (case hh => exact fun id ob => no_lk id ob _); (case hf => exact frT); (case htm => exact pT); (case hn => exact nT); (case h => exact h.out))
      | fail) : p := h c ⟨hq⟩
theorem Zw {p q : Prop} {A : Prop} (c : A) (hq : q) (h : A → Held q → p := by
    intro c h
    first
      | ((with_reducible first | apply AO_newE | apply D_newE); (case hg => exact gT); (case ho => exact rfl); (case ht => exact rfl); (case hc => exact c); (case hf => exact frT); (try case hid => exact nT); (case hy => first | (simp only [List.map_cons, List.map_nil]; exact rfl) | exact rfl); (case htm => exact pT); (case hn => exact nT); (try case htc => exact rfl); (case h => exact h.out))
      | fail) : p := h c ⟨hq⟩
theorem Zd {p q : Prop} {A : Prop} (c : A) (hq : q) (h : A → Held q → p := by
    intro c h
    first
      | ((with_reducible apply AO_hcallD); (case hg => exact gT); (case ho => exact rfl); (case ht => exact rfl); (case hc => exact c); (case hy => exact rfl); (case hh => exact rfl); (case hn => first | (simp only [Nat.reduceAdd]; exact rfl) | exact rfl); (case htm => exact pT); (case h => exact h.out))
      | fail) : p := h c ⟨hq⟩
theorem Zh {p q : Prop} {A : Prop} (c : A) (hq : q) (h : A → Held q → p := by
    intro c h
    first
      | ((with_reducible apply AO_hcallE); (case hg => exact gT); (case ho => exact rfl); (case ht => exact rfl); (case hc => exact c); (case htm => exact pT); (case h => exact h.out))
      | fail) : p := h c ⟨hq⟩
theorem Zl {p : Prop} {q : Bool → Prop} {r : Bool → Prop} (hq : ∀ bn, r bn → q bn) (h : Held (∀ bn, r bn → q bn) → p := by
    intro h
    first
      | ((with_reducible apply AO_nilE); (case hg => exact gT); (case ho => exact rfl); (case ht => simp only [go_sem]; exact rfl); (case hx => exact rfl); (case hn => exact nT); exact h.out)
      | fail) : p := h ⟨hq⟩
theorem Zb {p q r : Prop} (hq : q) (hr : r) (h : Held q → Held r → p := by
    intro h1 h2
    first
      | ((with_reducible apply W_condE); (case hb => exact rfl); (case e1 => exact sT); (case e2 => exact sT); (case h1 => exact h1.out); (case h2 => exact h2.out))
      | ((fail_if_success ((with_reducible first | apply AO_stepE | apply V_stepE | apply D_stepE); (case hg => exact gT))); (fail_if_success ((with_reducible first | apply AO_skipE | apply V_skipE | apply D_skipE); (case hg => exact gF))); (with_reducible first | apply AO_split | apply V_split | apply D_split); (case hg => exact rfl); (case hd => exact rfl); (case hb => exact rfl); (case e1 => exact sT); (case e2 => exact sT); (case h1 => exact h1.out); (case h2 => exact h2.out))
      | fail) : p := h ⟨hq⟩ ⟨hr⟩
theorem Zr {p : Prop} (h : p := by
    first
      | ((with_reducible apply retQ_frz); (case h => simp (disch := omega) only [go_sem]; exact rfl); (case hq => exact rfl); (case hz => simp [nm_nilp, nm_nilFunc, nm_nilIface, Fz.int_iff, Fz.bool_iff, Fz.agg_iff, Fz.str_iff, rws_fz_iff, ri_fz_iff, Fz.tuple_iff, enc_fz_iff, enc_mem_iff, Fz.fp_iff, Fz.func_iff]); (case hf => repeat' first | exact .refl _ | (refine .tupleC ?_) | (refine .cons ?_ ?_) | exact .nil | exact .slR (.refl _) | exact .refE trivial (by simp only [go_sem]; exact rfl) (by first | rfl | (simp; done) | (simp [rws, Enc.enc]; done) | fail) (by first | rfl | (simp [rws_length]; done) | (simp [rws_length]; omega) | fail) | exact .refF trivial (by simp only [go_sem]; exact rfl) (by first | assumption | fail) (by first | rfl | (simp [rws_length]; done) | (simp [rws_length]; omega) | fail) | exact .refP trivial (by simp only [go_sem]; exact rfl) (by first | rfl | assumption | (simp [rws_length]; omega)) (by omega) (by first | assumption | (simp only [List.drop_zero]; assumption)) | (refine .aggC ?_)))
      | fail) : p := h
theorem Zrn {p : Prop} (h : p := by
    first
      | (refine N_nil ?_; (with_reducible apply retN_frz); (case h => simp (disch := omega) only [go_sem]; exact rfl); (case hq => exact rfl); (case hz => simp [nm_nilp, nm_nilFunc, nm_nilIface, Fz.int_iff, Fz.bool_iff, Fz.agg_iff, Fz.str_iff, rws_fz_iff, ri_fz_iff, Fz.tuple_iff, enc_fz_iff, enc_mem_iff, Fz.fp_iff, Fz.func_iff]); (case hf => repeat' first | exact .refl _ | (refine .tupleC ?_) | (refine .cons ?_ ?_) | exact .nil | exact .slR (.refl _) | exact .refE trivial (by simp only [go_sem]; exact rfl) (by first | rfl | (simp; done) | (simp [rws, Enc.enc]; done) | fail) (by first | rfl | (simp [rws_length]; done) | (simp [rws_length]; omega) | fail) | exact .refF trivial (by simp only [go_sem]; exact rfl) (by first | assumption | fail) (by first | rfl | (simp [rws_length]; done) | (simp [rws_length]; omega) | fail) | exact .refP trivial (by simp only [go_sem]; exact rfl) (by first | rfl | assumption | (simp [rws_length]; omega)) (by omega) (by first | assumption | (simp only [List.drop_zero]; assumption)) | (refine .aggC ?_)))
      | fail) : p := h
theorem Zrw {p : Prop} (h : p := by
    first
      | ((with_reducible apply retU_of); (case h => simp (disch := omega) only [go_sem]; exact rfl); (case h2 => exact rfl); (case h3 => first | (simp only [go_sem]; done) | (simp only [go_sem]; exact rfl)))
      | fail) : p := h
theorem Zf {p : Prop} (h : p := by
    first
      | (simp [nm_nilp, nm_nilFunc, nm_nilIface, Fz.int_iff, Fz.bool_iff, Fz.agg_iff, Fz.str_iff, rws_fz_iff, ri_fz_iff, Fz.tuple_iff, enc_fz_iff, enc_mem_iff, Fz.fp_iff, Fz.func_iff])
      | fail) : p := h
end Go.AM
end
