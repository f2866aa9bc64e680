/-
  AM, part 45: rows that are cleared; calls over a heap whose answer is known.
-/
import Derived.Test.YtfbmbjfcgoahfaaAM44
set_option linter.unusedVariables false
set_option linter.unusedSimpArgs false
namespace Go.AM
open Go

section
variable {P : Program} {n0 : Nat} {all : Array Oper} {K : St → Prop}

/-- 'clear' of a slice of an object. -/
theorem AO_clearE {o : Oper} {rest : List Oper} {i nx nx' : Nat} {tm : List AVal} {hp hp' : Heap} {c : Call} {t e : TypeId} {x : Operand} {id sz base len cc esz n m : Nat} {ex : Bool} {rows : List (List AVal)} {zz : AVal} {te : TI} {z : List AVal}
    (hg : guardA all tm o = some true) (ho : o.op = .call c) (hcb : c.callee = .builtin .clear) (hct : c.argTypes = #[t]) (hca : c.args = #[x]) (hx : ev tm x = .ref id sz base len ex cc) (hl : lk hp id = some (.arr esz rows))
    (ht : tab P t = some ⟨.slice e, n, m, zz⟩) (he : tab P e = some te) (hz : boxCells te.zero = some z) (hzl : z.length = esz) (hsz : rows.length = sz) (hb : base + len ≤ sz) (hlen : 0 < len)
    (hd : o.dst = none) (hh : hset hp id (.arr esz (rows.take base ++ List.replicate len z ++ rows.drop (base + len))) = hp') (hn : nx + 1 = nx') (h : AO P n0 all rest (i + 1) K ⟨tm, hp', nx'⟩) : AO P n0 all (o :: rest) i K ⟨tm, hp, nx⟩ := by
  subst hh
  subst hn
  refine AO_cons fun ext β a w hs hoo Q' next hnext => ?_
  rw [guard_ok hs hg, if_pos rfl]
  refine .inl ?_
  have hv := hs.ev x
  have hnm := hs.nm_ev x
  rw [show ev _ x = .ref id sz base len ex cc from hx] at hv hnm
  cases hnm with | ref _ _ _ _ _ _ hid =>
  generalize hze : a.eval x = v at hv
  cases hv with | ref _ _ _ _ _ _ ad cap hcap hlo hex hok =>
  obtain ⟨_, hok2⟩ := hok esz rows hl
  obtain ⟨_, hat⟩ := hok2 hsz.symm
  rcases hat with h0 | ⟨b, hbb, ha, e', mm, hsh, hmm⟩
  · omega
  obtain ⟨zv, hzr, hzc, hzn⟩ := zero_cells (cx ext β hp w) he hz
  have hzz := Rows.zeros hzc len
  rw [hzl] at hzz
  have hnews : RowVals (cx ext β hp w) esz (List.replicate len z) (Builtin.zeroCells zv.cells len).toList := by
    have e0 : Builtin.zeroCells zv.cells len = (Array.range (len * esz)).map fun i => zv.cells[i % zv.cells.size]! := by
      have : zv.cells.size = esz := by rw [← hzl]; exact hzc.size.symm ▸ rfl
      simp [Builtin.zeroCells, this]
    rw [e0]
    exact ⟨by rw [Array.length_toList, hzz.size], fun u hu => by
      obtain ⟨k, hk⟩ := List.getElem?_of_mem hu
      exact hzz.one k u (by rw [← Array.getElem?_toList]; exact hk), fun i r j y u hr hy hu => hzz.rel i r j y u hr hy (by rw [← Array.getElem?_toList]; exact hu)⟩
  have hex2 : execOp a.eval o = (do pure (.value (← Builtin.clear_ #[t] o.type #[.slice ad len cap])) : Sem Next) := by
    have e1 : execOp a.eval o = builtin .clear c.argTypes o.type (c.args.map fun | .const _ => true | _ => false) (c.args.map a.eval) := by
      simp only [execOp, ho, resolve, hcb, pure_bind]
      rfl
    rw [e1, hct, hca]
    have e2 : (#[x].map a.eval) = #[.slice ad len cap] := by simp [hze]
    rw [e2]
    rfl
  have hclear : ∀ cur, w.heap[b]? = some (.cells cur e' (0, 0)) → base * esz + (0 + len) * esz ≤ cur.size →
      (Builtin.clear_ #[t] o.type #[.slice ad len cap]).run P w = .ok (.tuple #[]) (w.setRow b (cur.toList.take (base * esz + 0 * esz) ++ (Builtin.zeroCells zv.cells len).toList ++ cur.toList.drop (base * esz + 0 * esz + (Builtin.zeroCells zv.cells len).toList.length)).toArray) := by
    intro cur h1 h2
    have hst := run_storeCells_at (P := P) b (base * esz) e' (Builtin.zeroCells zv.cells len).toList 0 cur w h1 (by rw [hnews.len]; simp; rw [Nat.zero_add] at h2; omega) hnews.one
    simp only [Nat.add_zero] at hst
    simp only [Nat.zero_mul, Nat.add_zero]
    obtain ⟨k, rfl⟩ : ∃ k, len = k + 1 := ⟨len - 1, by omega⟩
    rw [ha]
    simp [Builtin.clear_, run_underlying (und_slice ht), hzr, hst]
  have key := out_room (fresh := nx) (ex' := ex) (c1 := cc) (P := P) (len := 0) (n := len) (base := base) (cap := cap) (new := List.replicate len z) (s := (do let _ ← Builtin.clear_ #[t] o.type #[.slice ad len cap]; pure (.value (.slice (some ⟨b, base * esz, none⟩) (0 + len) cap)))) hs.heap hl hbb hsh hmm (by omega) (by omega) (by simp) (fun r hr => by rw [List.mem_replicate] at hr; rw [hr.2, hzl]) hnews
    (fun r hr y hy => by rw [List.mem_replicate] at hr; exact Fz.nm (hzn y (hr.2 ▸ hy)) _) hid hlo hex (fun cur h1 h2 => by simp [hclear cur h1 h2])
  obtain ⟨r, v', w', β', h1, h2, h3, h4, h5, h6, h7⟩ := key
  rw [Nat.add_zero] at h3 h4 h6 h7
  have hrun : (Builtin.clear_ #[t] o.type #[.slice ad len cap]).run P w = .ok (.tuple #[]) w' := by
    have hblk : ∃ cur, w.heap[b]? = some (.cells cur e' (0, 0)) ∧ base * esz + (0 + len) * esz ≤ cur.size := by
      obtain ⟨hrows, hblk⟩ := hs.heap.ob id _ hl
      have hb0 : (cx ext β hp w).β id = some b := hbb
      rw [hb0] at hblk
      obtain ⟨cur, e2, h8, h9, _⟩ := hblk
      have h8' : w.heap[b]? = some (.cells cur e2 (0, 0)) := h8
      have : w.shape? b = some (e2, cur.size) := by simp [World.shape?, h8']
      have hsh2 : w.shape? b = some (e', mm) := hsh
      rw [this] at hsh2
      injection hsh2 with hsh2
      injection hsh2 with q1 q2
      subst q1
      refine ⟨cur, h8', ?_⟩
      rw [← Nat.add_mul]
      refine Nat.le_trans (Nat.mul_le_mul_right _ ?_) h9
      omega
    obtain ⟨cur, h8, h9⟩ := hblk
    have h10 := hclear cur h8 h9
    have h11 : (do let _ ← Builtin.clear_ #[t] o.type #[.slice ad len cap]; pure (.value (.slice (some ⟨b, base * esz, none⟩) (0 + len) cap)) : Sem Next).run P w = .ok (.value (.slice (some ⟨b, base * esz, none⟩) (0 + len) cap)) (w.setRow b (cur.toList.take (base * esz + 0 * esz) ++ (Builtin.zeroCells zv.cells len).toList ++ cur.toList.drop (base * esz + 0 * esz + (Builtin.zeroCells zv.cells len).toList.length)).toArray) := by simp [h10]
    rw [h11] at h1
    injection h1 with _ h1
    rw [h10, h1]
  unfold Oper.wp
  rw [hex2]
  have hrun2 : (do pure (.value (← Builtin.clear_ #[t] o.type #[.slice ad len cap])) : Sem Next).run P w = .ok (.value (.tuple #[])) w' := by simp [hrun]
  rw [hrun2]
  have hpq : ∀ j, Lt nx j ∨ j = nx → Lt (nx + 1) j := fun j hj => by rcases hj with hj | hj <;> simp only [Lt] at * <;> omega
  have hlow : n0 ≤ nx := by
    rcases Nat.lt_or_ge nx n0 with h8 | h8
    · exact absurd (hs.low nx h8) (Nat.lt_irrefl _)
    · exact h8
  have hput := (hs.put h3 (fun _ => .inl) h7 (rel_undef (c := cx ext β' (hset hp id (.arr esz (rows.take base ++ List.replicate len z ++ rows.drop (base + len)))) w')) (.tuple [] (by simp)) o.dst).mono hpq
  have hput2 : SIn n0 ext β' ⟨tm, hset hp id (.arr esz (rows.take base ++ List.replicate len z ++ rows.drop (base + len))), nx + 1⟩ (a.put o.dst (.tuple #[])) w' := by
    rw [hd] at hput ⊢
    exact hput
  exact hnext β' _ _ _ h hput2 ⟨h6, h7.weaken fun j hj => Nat.lt_of_lt_of_le hj hlow⟩

/-- A call over a heap whose answer is known. -/
theorem AO_hcallD {o : Oper} {rest : List Oper} {i nx nx' n1 : Nat} {tm tm' : List AVal} {hp hp' h1 : Heap} {c : Call} {g : FuncId} {args : List AVal} {r1 y : AVal} (hg : guardA all tm o = some true) (ho : o.op = .call c) (ht : target tm c = some (g, args))
    (hc : HCall P g args hp nx (fun r h n => r = r1 ∧ h = h1 ∧ n = n1)) (hy : r1 = y) (hh : h1 = hp') (hn : n1 = nx') (htm : putT tm o.dst y = tm') (h : AO P n0 all rest (i + 1) K ⟨tm', hp', nx'⟩) : AO P n0 all (o :: rest) i K ⟨tm, hp, nx⟩ := by
  subst hy
  subst hh
  subst hn
  subst htm
  refine AO_hcall hg ho ht hc ?_
  rintro r h' nx' ⟨rfl, rfl, rfl⟩
  exact h

theorem _root_.Go.AM.Frz.refP {h : Heap} {S : Nat → Prop} {id sz base len esz c : Nat} {ex : Bool} {xs ys : List (List AVal)} (hS : S id) (hl : lk h id = some (.arr esz xs)) (hsz : xs.length = sz) (hb : base + len ≤ sz) (e : (xs.drop base).take len = ys) : Frz h S (.ref id sz base len ex c) (.sl ys Option.none) := by
  subst e
  exact Frz.ref0 hS hl hsz hb

theorem retH_of {rs : List ResultVar} {s : St} {xs : List AVal} {r1 : AVal} {h1 : Heap} {n1 : Nat} (h : resAs P s rs = some xs) (h2 : packA xs = r1) (h3 : s.h = h1) (h4 : s.nx = n1) : retH P rs (fun r h n => r = r1 ∧ h = h1 ∧ n = n1) .ret s :=
  ⟨xs, s.h, h, fun _ _ e => e, h2, h3, h4⟩

end
end Go.AM
