/-
  AM, part 6: fields, elements, slicing, and other operations that lay nothing new.
-/
import Derived.Test.YtfbmbjfcgoahfaaAM5
namespace Go.AM
open Go

theorem mapM_get {α γ : Type} {f : α → Option γ} : ∀ {l : List α} {r : List γ}, l.mapM f = some r → ∀ (i : Nat) b, r[i]? = some b → ∃ a, l[i]? = some a ∧ f a = some b
  | [], r, h, i, b, hb => by simp at h; subst h; simp at hb
  | a :: l, r, h, i, b, hb => by
    obtain ⟨c, cs, h1, h2, rfl⟩ := mapM_cons_some h
    cases i with
    | zero => simp at hb; subst hb; exact ⟨a, rfl, h1⟩
    | succ i =>
      simp at hb
      obtain ⟨a', h3, h4⟩ := mapM_get h2 i b hb
      exact ⟨a', by simpa using h3, h4⟩

/-- A field's row. -/
def fld (P : Program) (t : TypeId) (f : Nat) : Option Fld :=
  match tab P t with
  | some ⟨.struct fs, _, _, _⟩ => fs[f]?
  | _ => none

theorem fld_ok {P : Program} {t : TypeId} {f : Nat} {fl : Fld} (h : fld P t f = some fl) :
    ∃ (gs : Array Field) (g : Field) (i : TypeInfo) (d : TypeDesc), P.underlying t = some (.struct gs) ∧ gs[f]? = some g ∧ P.info? g.type = some i ∧ P.underlying g.type = some d ∧ fl.off = g.offset ∧ fl.size = i.size ∧ fl.agg = aggD d := by
  unfold fld at h
  split at h
  case h_2 => cases h
  rename_i fs _ _ _ ht
  obtain ⟨gs, hg, hm⟩ := kind_struct ⟨_, ht, rfl⟩
  obtain ⟨g, h1, h2⟩ := mapM_get hm f fl h
  obtain ⟨i, hi, h2⟩ := Option.bind_eq_some_iff.1 h2
  obtain ⟨d, hd, h2⟩ := Option.map_eq_some_iff.1 h2
  subst h2
  exact ⟨gs, g, i, d, hg, by simpa using h1, hi, hd, rfl, rfl, rfl⟩

def afieldAddr (P : Program) (t : TypeId) (x : AVal) (f : Nat) : Option AVal :=
  match fld P t f with
  | some fl =>
    if fl.size = 0 then none else
    match x with
    | .ptr id sz row col => some (.ptr id sz row (col + fl.off))
    | .fp cells => some (.fp (cells.drop fl.off))
    | _ => none
  | none => none

def afield (P : Program) (t : TypeId) (x : AVal) (f : Nat) : Option AVal :=
  match fld P t f, x with
  | some fl, .agg cs => apart fl.agg fl.size cs fl.off
  | _, _ => none

theorem VRel_fp_drop {c : Cx} {cells : List AVal} {blk off : Nat} {v : Value} (h : VRel c (.fp cells) v) (hv : v = .pointer (some ⟨blk, off, none⟩)) (k : Nat) : VRel c (.fp (cells.drop k)) (.pointer (some ⟨blk, off + k, none⟩)) := by
  cases h with | fp _ b o vals hcell hrel =>
  injection hv with hv
  injection hv with hv
  injection hv with e1 e2
  subst e1 e2
  refine .fp _ b (o + k) (fun j => vals (k + j)) (fun j x hx => ?_) (fun j x hx => ?_)
  · rw [List.getElem?_drop] at hx
    have := hcell (k + j) x hx
    rw [Nat.add_assoc]; exact this
  · rw [List.getElem?_drop] at hx
    exact hrel (k + j) x hx

theorem VRel_ptr_col {c : Cx} {id sz row col : Nat} {ad : Addr} {v : Value} (h : VRel c (.ptr id sz row col) v) (hv : v = .pointer (some ad)) (k : Nat) : VRel c (.ptr id sz row (col + k)) (.pointer (some (ad.add k))) := by
  cases h with | ptr _ _ _ _ ad' hok =>
  injection hv with hv
  injection hv with hv
  subst hv
  refine .ptr _ _ _ _ _ fun esz rows hl => ?_
  obtain ⟨h1, h2⟩ := hok esz rows hl
  refine ⟨h1, fun e => ?_⟩
  obtain ⟨b, hb, had⟩ := h2 e
  subst had
  exact ⟨b, hb, by rw [addr_add, Nat.add_assoc]⟩

section ops
variable {P : Program} {c : Cx} {p : Nat → Prop} (w : World)

theorem afieldAddr_ok {t : TypeId} {f : Nat} {x y : AVal} {v : Value} (hv : VRel c x v) (hn : Nm p x) (hy : afieldAddr P t x f = some y) :
    ∃ u, (Instr.fieldAt t v f).run P w = .ok u w ∧ VRel c y u ∧ Nm p y := by
  unfold afieldAddr at hy
  split at hy
  case h_2 => cases hy
  rename_i fl hfl
  split at hy
  case isTrue => cases hy
  rename_i hsz
  obtain ⟨gs, g, i, d, hg, hgf, hi, hd, e1, e2, e3⟩ := fld_ok hfl
  have hs : (sizeOf g.type).run P w = .ok i.size w := by simp [sizeOf, typeInfo, hi]
  have hne : ¬ i.size = 0 := by rw [← e2]; exact hsz
  have hrun : ∀ ad : Addr, (Instr.fieldAt t (.pointer (some ad)) f).run P w = .ok (.pointer (some (ad.add g.offset))) w := fun ad => by
    simp [Instr.fieldAt, run_underlying hg, hgf, Instr.sureAddr, fieldPlace, hs, hne]
  have hv0 := hv
  cases hv <;> simp only [] at hy <;> try (cases hy; done)
  case ptr id sz row col ad hok =>
    injection hy with hy
    subst hy
    cases hn with | ptr _ _ _ _ hid =>
    exact ⟨_, hrun ad, e1 ▸ VRel_ptr_col hv0 rfl _, .ptr _ _ _ _ hid⟩
  case fp cells blk off vals hcell hrel =>
    injection hy with hy
    subst hy
    cases hn with | fp _ hn =>
    refine ⟨_, hrun _, ?_, .fp _ fun z hz => hn z (List.mem_of_mem_drop hz)⟩
    rw [addr_add]
    exact e1 ▸ VRel_fp_drop hv0 rfl _

theorem afield_ok {t : TypeId} {f : Nat} {x y : AVal} {v : Value} (hv : VRel c x v) (hn : Nm p x) (hy : afield P t x f = some y) :
    ∃ u, (Instr.field t v f).run P w = .ok u w ∧ VRel c y u ∧ Nm p y := by
  unfold afield at hy
  split at hy
  case h_2 => cases hy
  rename_i fl cs hfl
  obtain ⟨gs, g, i, d, hg, hgf, hi, hd, e1, e2, e3⟩ := fld_ok hfl
  cases hv with | agg _ vs l o r =>
  cases hn with | agg _ hn =>
  rw [e1, e2, e3] at hy
  obtain ⟨u, h1, h2⟩ := run_part' hi hd l o r hy w
  exact ⟨u, by simp [Instr.field, run_underlying hg, hgf, asAgg, h1], h2, nm_apart hy hn⟩

def aextract (x : AVal) (i : Nat) : Option AVal :=
  match x with
  | .tuple vs => vs[i]?
  | _ => none

theorem aextract_ok {i : Nat} {x y : AVal} {v : Value} (hv : VRel c x v) (hn : Nm p x) (hy : aextract x i = some y) : ∃ u, (Instr.extract v i).run P w = .ok u w ∧ VRel c y u ∧ Nm p y := by
  cases hv <;> simp only [aextract] at hy <;> try (cases hy; done)
  case tuple cells vs l r =>
    cases hn with | tuple _ hn =>
    have hi : i < vs.size := by rw [l]; exact (List.getElem?_eq_some_iff.1 hy).1
    exact ⟨vs[i], by simp [Instr.extract, Array.getElem?_eq_getElem hi], r i y _ hy (Array.getElem?_eq_getElem hi), hn y (List.mem_of_getElem? hy)⟩

/-! ### Elements -/

def aindexAddr (P : Program) (h : Heap) (t : TypeId) (x ix : AVal) : Option AVal :=
  match ix with
  | .int _ i =>
    if 0 ≤ i then
      match tab P t with
      | some ⟨.slice e, _, _, _⟩ =>
        match tab P e with
        | some te =>
          match x with
          | .sl rows _ => match rows[i.toNat]? with | some r => if r.length = te.size then some (.fp r) else none | none => none
          | .ref id sz base len _ _ =>
            match lk h id with
            | some (.arr esz rows) => if rows.length = sz ∧ esz = te.size ∧ i < len then some (.ptr id sz (base + i.toNat) 0) else none
            | _ => none
          | _ => none
        | none => none
      | some ⟨.array n e, _, _, _⟩ =>
        match tab P e with
        | some te =>
          if i < n then
            match x with
            | .ptr id sz row col => some (.ptr id sz row (col + i.toNat * te.size))
            | .fp cells => some (.fp (cells.drop (i.toNat * te.size)))
            | _ => none
          else none
        | none => none
      | _ => none
    else none
  | _ => none

theorem aindexAddr_ok {t : TypeId} {x ix y : AVal} {v vi : Value} (hv : VRel c x v) (hvi : VRel c ix vi) (hn : Nm p x) (hy : aindexAddr P c.h t x ix = some y) :
    ∃ u, (Instr.indexAt t v vi).run P w = .ok u w ∧ VRel c y u ∧ Nm p y := by
  unfold aindexAddr at hy
  split at hy
  case h_2 => cases hy
  rename_i k i
  cases hvi
  split at hy
  case isFalse => cases hy
  rename_i hi0
  split at hy
  case h_3 => cases hy
  case h_1 =>
    rename_i e _ _ _ ht
    split at hy
    case h_2 => cases hy
    rename_i te he
    have hu := und_slice ht
    have hs := run_size (P := P) w he
    have hv0 := hv
    cases hv <;> simp only [] at hy <;> try (cases hy; done)
    case sl rows lim a cap esz blk off vals hcap hlim hrow ha hcell hrel =>
      split at hy
      case h_2 => cases hy
      rename_i r hr
      split at hy
      case isFalse => cases hy
      rename_i hlen
      injection hy with hy
      subst hy
      have hlt : i.toNat < rows.length := (List.getElem?_eq_some_iff.1 hr).1
      have hne : rows ≠ [] := fun e => by rw [e] at hlt; simp at hlt
      have hlt' : i < (rows.length : Int) := by omega
      have hesz : esz = te.size := by rw [← hlen]; exact (hrow r (List.mem_of_getElem? hr)).symm
      refine ⟨.pointer (some ⟨blk, off + i.toNat * te.size, none⟩), ?_, ?_, ?_⟩
      · rw [ha hne]
        simp [Instr.indexAt, asIntOf, run_underlying hu, hi0, hlt', hs, addr_add]
      · refine .fp r blk (off + i.toNat * te.size) (fun j => vals i.toNat j) (fun j x hx => ?_) (fun j x hx => hrel _ r j x hr hx)
        have := hcell _ r j x hr hx
        rw [← hesz, Nat.add_assoc]; exact this
      · cases hn with | sl _ _ hn =>
        exact .fp r (hn r (List.mem_of_getElem? hr))
    case ref id sz base len ex c0 a cap hcap hlo hex hok =>
      split at hy
      case h_2 => cases hy
      rename_i esz rows hl
      split at hy
      case isFalse => cases hy
      rename_i hcond
      obtain ⟨h1, h2, h3⟩ := hcond
      injection hy with hy
      subst hy
      obtain ⟨h4, h5⟩ := hok esz rows hl
      obtain ⟨h6, h7⟩ := h5 h1.symm
      rcases h7 with h7 | ⟨b, hb, ha, e', n, h8, h9⟩
      · omega
      · subst ha
        refine ⟨.pointer (some ⟨b, base * esz + i.toNat * te.size, none⟩), ?_, ?_, ?_⟩
        · simp [Instr.indexAt, asIntOf, run_underlying hu, hi0, h3, hs, addr_add]
        · refine .ptr _ _ _ _ _ fun esz' rows' hl' => ?_
          rw [hl] at hl'
          injection hl' with hl'
          injection hl' with q1 q2
          subst q1 q2
          exact ⟨Nat.le_of_eq h1.symm, fun _ => ⟨b, hb, by rw [← h2, Nat.add_mul, Nat.add_zero]⟩⟩
        · cases hn with | ref _ _ _ _ _ _ hid =>
          exact .ptr _ _ _ _ hid
  case h_2 =>
    rename_i n e _ _ _ ht
    split at hy
    case h_2 => cases hy
    rename_i te he
    split at hy
    case isFalse => cases hy
    rename_i hin
    have hu := und_array ht
    have hs := run_size (P := P) w he
    have hrun : ∀ ad : Addr, (Instr.indexAt t (.pointer (some ad)) (.int k i)).run P w = .ok (.pointer (some (ad.add (i.toNat * te.size)))) w := fun ad => by
      simp [Instr.indexAt, asIntOf, run_underlying hu, Instr.sureAddr, hi0, hin, hs]
    have hv0 := hv
    cases hv <;> simp only [] at hy <;> try (cases hy; done)
    case ptr id sz row col ad hok =>
      injection hy with hy
      subst hy
      cases hn with | ptr _ _ _ _ hid =>
      exact ⟨_, hrun ad, VRel_ptr_col hv0 rfl _, .ptr _ _ _ _ hid⟩
    case fp cells blk off vals hcell hrel =>
      injection hy with hy
      subst hy
      cases hn with | fp _ hn =>
      refine ⟨_, hrun _, ?_, .fp _ fun z hz => hn z (List.mem_of_mem_drop hz)⟩
      rw [addr_add]
      exact VRel_fp_drop hv0 rfl _

def aindex (P : Program) (t : TypeId) (x ix : AVal) : Option AVal :=
  match ix with
  | .int _ i =>
    if 0 ≤ i then
      match tab P t, x with
      | some ⟨.str, _, _, _⟩, .str s => match s[i.toNat]? with | some b => some (.int .u8 b.toNat) | none => none
      | some ⟨.array n e, _, _, _⟩, .agg cs => match tab P e with | some te => if i < n then apart te.kind.agg te.size cs (i.toNat * te.size) else none | none => none
      | _, _ => none
    else none
  | _ => none

theorem aindex_ok {t : TypeId} {x ix y : AVal} {v vi : Value} (hv : VRel c x v) (hvi : VRel c ix vi) (hn : Nm p x) (hy : aindex P t x ix = some y) :
    ∃ u, (Instr.index t v vi).run P w = .ok u w ∧ VRel c y u ∧ Nm p y := by
  unfold aindex at hy
  split at hy
  case h_2 => cases hy
  rename_i k i
  cases hvi
  split at hy
  case isFalse => cases hy
  rename_i hi0
  split at hy
  case h_3 => cases hy
  case h_1 =>
    rename_i _ _ _ s ht
    cases hv
    split at hy
    case h_2 => cases hy
    rename_i b hb
    injection hy with hy
    subst hy
    exact ⟨.int .u8 b.toNat, by simp [Instr.index, asIntOf, run_underlying (und_str ht), hi0, hb], .int _ _, .int _ _⟩
  case h_2 =>
    rename_i n e _ _ _ cs ht
    split at hy
    case h_2 => cases hy
    rename_i te he
    split at hy
    case isFalse => cases hy
    rename_i hin
    cases hv with | agg _ vs l o r =>
    cases hn with | agg _ hn =>
    obtain ⟨u, h1, h2⟩ := run_part he l o r hy w
    exact ⟨u, by simp [Instr.index, asIntOf, run_underlying (und_array ht), hi0, hin, run_size w he, h1], h2, nm_apart hy hn⟩

/-! ### Slicing -/

def abnd : Option AVal → Option (Option Nat)
  | none => some none
  | some (.int _ i) => if 0 ≤ i then some (some i.toNat) else none
  | some _ => none

def alim (m : Option Nat) (l : Nat) (lim : Option Nat) : Option Nat :=
  match m with
  | some m => some (m - l)
  | none => lim.map (· - l)

def aslice (P : Program) (h : Heap) (t : TypeId) (x : AVal) (lo hi mx : Option AVal) : Option AVal :=
  match abnd lo, abnd hi, abnd mx with
  | some l, some u, some m =>
    match tab P t, x with
    | some ⟨.str, _, _, _⟩, .str s =>
      if m.isNone ∧ l.getD 0 ≤ u.getD s.size ∧ u.getD s.size ≤ s.size then some (.str (s.extract (l.getD 0) (u.getD s.size))) else none
    | some ⟨.slice e, _, _, _⟩, .sl rows lim =>
      match tab P e with
      | some te =>
        if l.getD 0 ≤ u.getD rows.length ∧ u.getD rows.length ≤ m.getD rows.length ∧ m.getD rows.length ≤ rows.length ∧ (m.isSome → u.isSome) ∧ ∀ r, r ∈ rows → r.length = te.size then
          some (.sl ((rows.drop (l.getD 0)).take (u.getD rows.length - l.getD 0)) (alim m (l.getD 0) lim))
        else none
      | none => none
    | some ⟨.slice e, _, _, _⟩, .ref id sz base len ex c =>
      match tab P e, lk h id with
      | some te, some (.arr esz rows) =>
        if rows.length = sz ∧ esz = te.size ∧ l.getD 0 ≤ u.getD len ∧ u.getD len ≤ m.getD (max len c) ∧ m.getD (max len c) ≤ max len c ∧ (m.isSome → u.isSome) ∧ base + u.getD len ≤ sz then
          some (.ref id sz (base + l.getD 0) (u.getD len - l.getD 0) (m.isSome || ex) (m.getD (max len c) - l.getD 0))
        else none
      | _, _ => none
    | _, _ => none
  | _, _, _ => none

theorem run_bound {x : Value} {k : IntKind} {i : Int} (hx : x = .int k i) (h0 : 0 ≤ i) {y : Nat} (hy : i.toNat ≤ y) (code : BoundsCode) : (Instr.sliceBound x y code).run P w = .ok i.toNat w := by
  subst hx
  have : i ≤ (y : Int) := by omega
  simp [Instr.sliceBound, asIntOf, h0, this]

theorem abnd_ok {o : Option AVal} {r : Option Nat} {ov : Option Value} (h : abnd o = some r) (hv : ∀ x, o = some x → ∃ v, ov = some v ∧ VRel c x v) (hnone : o = none → ov = none) :
    (r = none ∧ ov = none) ∨ (∃ k i, ov = some (.int k i) ∧ 0 ≤ i ∧ r = some i.toNat) := by
  cases o with
  | none => simp [abnd] at h; exact .inl ⟨h.symm, hnone rfl⟩
  | some x =>
    obtain ⟨v, h1, h2⟩ := hv x rfl
    cases h2 <;> simp only [abnd] at h <;> try (cases h; done)
    rename_i k n
    split at h
    case isFalse => cases h
    rename_i h0
    injection h with h
    exact .inr ⟨k, n, h1, h0, h.symm⟩

theorem run_bounds {l u m : Option Nat} {lv uv mv : Option Value} (hl : (l = none ∧ lv = none) ∨ (∃ k i, lv = some (.int k i) ∧ 0 ≤ i ∧ l = some i.toNat))
    (hu : (u = none ∧ uv = none) ∨ (∃ k i, uv = some (.int k i) ∧ 0 ≤ i ∧ u = some i.toNat)) (hm : (m = none ∧ mv = none) ∨ (∃ k i, mv = some (.int k i) ∧ 0 ≤ i ∧ m = some i.toNat))
    (isSlice : Bool) (len cap : Nat) (h1 : l.getD 0 ≤ u.getD len) (h2 : u.getD len ≤ m.getD cap) (h3 : m.getD cap ≤ cap) (h4 : m.isSome → u.isSome) :
    (Instr.sliceBounds isSlice len cap lv uv mv).run P w = .ok (l.getD 0, u.getD len, m.getD cap) w := by
  unfold Instr.sliceBounds
  rcases hm with ⟨rfl, rfl⟩ | ⟨km, im, rfl, hm0, rfl⟩ <;> rcases hu with ⟨rfl, rfl⟩ | ⟨ku, iu, rfl, hu0, rfl⟩ <;> rcases hl with ⟨rfl, rfl⟩ | ⟨kl, il, rfl, hl0, rfl⟩ <;>
    simp only [Option.getD_none, Option.getD_some] at h1 h2 h3 h4 ⊢ <;> try (simp at h4; done)
  · simp
  · simp [run_bound w rfl hl0 h1]
  · simp [run_bound w rfl hu0 h2]
  · simp [run_bound w rfl hu0 h2, run_bound w rfl hl0 h1]
  · simp [run_bound w rfl hm0 h3, run_bound w rfl hu0 h2]
  · simp [run_bound w rfl hm0 h3, run_bound w rfl hu0 h2, run_bound w rfl hl0 h1]

theorem aslice_ok {t : TypeId} {x y : AVal} {v : Value} {lo hi mx : Option AVal} {lv uv mv : Option Value} (hv : VRel c x v) (hn : Nm p x) (hy : aslice P c.h t x lo hi mx = some y)
    (hlo : ∀ x, lo = some x → ∃ v, lv = some v ∧ VRel c x v) (hlo' : lo = none → lv = none)
    (hhi : ∀ x, hi = some x → ∃ v, uv = some v ∧ VRel c x v) (hhi' : hi = none → uv = none)
    (hmx : ∀ x, mx = some x → ∃ v, mv = some v ∧ VRel c x v) (hmx' : mx = none → mv = none) :
    ∃ u, (Instr.sliceAt t v lv uv mv).run P w = .ok u w ∧ VRel c y u ∧ Nm p y := by
  unfold aslice at hy
  split at hy
  case h_2 => cases hy
  rename_i l u m hl hu hm
  replace hl := abnd_ok hl hlo hlo'
  replace hu := abnd_ok hu hhi hhi'
  replace hm := abnd_ok hm hmx hmx'
  split at hy
  case h_4 => cases hy
  case h_1 =>
    rename_i _ _ _ s ht
    cases hv
    split at hy
    case isFalse => cases hy
    rename_i hc
    obtain ⟨h1, h2, h3⟩ := hc
    injection hy with hy
    subst hy
    have hmn : m = none := by simpa using h1
    subst hmn
    have hmv : mv = none := by
      rcases hm with ⟨_, h⟩ | ⟨_, _, _, _, h⟩
      · exact h
      · cases h
    subst hmv
    have hb := run_bounds (P := P) w hl hu (.inl ⟨rfl, rfl⟩) false s.size s.size h2 (by simpa using h3) (by simp) (by simp)
    exact ⟨_, by simp [Instr.sliceAt, Instr.slice, run_underlying (und_str ht), hb], .str _, .str _⟩
  case h_2 =>
    rename_i e _ _ _ rows lim ht
    split at hy
    case h_2 => cases hy
    rename_i te he
    split at hy
    case isFalse => cases hy
    rename_i hc
    obtain ⟨h1, h2, h3, h4, h5⟩ := hc
    injection hy with hy
    subst hy
    have hu' := und_slice ht
    have hs := run_size (P := P) w he
    cases hv with | sl _ _ a cap esz blk off vals hcap hlim hrow ha hcell hrel =>
    cases hn with | sl _ _ hn =>
    have hmc : m.getD cap ≤ cap := by cases m with | none => simp | some m => simp at h3 ⊢; omega
    have hum : u.getD rows.length ≤ m.getD cap := by cases m with | none => simp at h2 h3 ⊢; omega | some m => simpa using h2
    have hb := run_bounds (P := P) w hl hu hm true rows.length cap h1 hum hmc h4
    generalize hL : l.getD 0 = L at *
    generalize hU : u.getD rows.length = U at *
    generalize hM : m.getD cap = M at *
    have hrun : (Instr.sliceAt t (.slice a rows.length cap) lv uv mv).run P w = .ok (.slice (if M = L then a else a.map (·.add (L * te.size))) (U - L) (M - L)) w := by
      simp [Instr.sliceAt, Instr.slice, run_underlying hu', hb, hs]
    refine ⟨_, hrun, ?_, .sl _ _ fun r hr x hx => hn r (List.mem_of_mem_drop (List.mem_of_mem_take hr)) x hx⟩
    have hUle : U ≤ rows.length := by cases m with | none => simp at h2; omega | some m => simp at h2 h3; omega
    have hlenr : ((rows.drop L).take (U - L)).length = U - L := by simp; omega
    have key := VRel.sl (c := c) ((rows.drop L).take (U - L)) (alim m L lim) (if M = L then a else a.map (·.add (L * te.size))) (M - L) esz blk (off + L * esz) (fun i j => vals (L + i) j)
      (by rw [hlenr]; omega)
      (fun l' hl' => by
        cases m with
        | none =>
          simp at hM
          simp only [alim] at hl'
          obtain ⟨l0, h6, rfl⟩ := Option.map_eq_some_iff.1 hl'
          rw [← hM, hlim l0 h6]
        | some m => simp [alim] at hM hl'; omega)
      (fun r hr => hrow r (List.mem_of_mem_drop (List.mem_of_mem_take hr)))
      (fun hne => by
        have h6 : 0 < U - L := by
          rcases Nat.eq_zero_or_pos (U - L) with h7 | h7
          · rw [h7] at hne; simp at hne
          · exact h7
        have hrne : rows ≠ [] := fun e => by rw [e] at hUle; simp at hUle; omega
        have hesz : esz = te.size := by
          cases rows with
          | nil => exact absurd rfl hrne
          | cons r rs => rw [← hrow r (by simp)]; exact h5 r (by simp)
        rw [if_neg (by omega), ha hrne]
        simp [addr_add, hesz])
      (fun i r j x h6 h7 => by
        rw [List.getElem?_take] at h6
        split at h6
        case isFalse => cases h6
        rw [List.getElem?_drop] at h6
        have := hcell (L + i) r j x h6 h7
        have e1 : off + L * esz + (i * esz + j) = off + ((L + i) * esz + j) := by rw [Nat.add_mul]; omega
        rw [e1]
        exact this)
      (fun i r j x h6 h7 => by
        rw [List.getElem?_take] at h6
        split at h6
        case isFalse => cases h6
        rw [List.getElem?_drop] at h6
        exact hrel (L + i) r j x h6 h7)
    rw [hlenr] at key
    exact key
  case h_3 =>
    rename_i e _ _ _ id sz base len ex c0 ht
    split at hy
    case h_2 => cases hy
    rename_i te esz rows he hlk
    split at hy
    case isFalse => cases hy
    rename_i hc
    obtain ⟨h0, h0', h1, h2, h3, h4, h5⟩ := hc
    injection hy with hy
    subst hy
    have hu' := und_slice ht
    have hs := run_size (P := P) w he
    cases hv with | ref _ _ _ _ _ _ a cap hcap hlo hex hok =>
    cases hn with | ref _ _ _ _ _ _ hid =>
    have hmax : max len c0 ≤ cap := by omega
    have hmc : m.getD cap ≤ cap := by cases m with | none => simp | some m => simp at h3 ⊢; omega
    have hum : u.getD len ≤ m.getD cap := by cases m with | none => simp at h2 h3 ⊢; omega | some m => simpa using h2
    have hb := run_bounds (P := P) w hl hu hm true len cap h1 hum hmc h4
    generalize hL : l.getD 0 = L at *
    generalize hU : u.getD len = U at *
    have hrun : (Instr.sliceAt t (.slice a len cap) lv uv mv).run P w = .ok (.slice (if m.getD cap = L then a else a.map (·.add (L * te.size))) (U - L) (m.getD cap - L)) w := by
      simp [Instr.sliceAt, Instr.slice, run_underlying hu', hb, hs]
    refine ⟨_, hrun, .ref _ _ _ _ _ _ _ _ (by omega) ?_ ?_ fun esz' rows' hl' => ?_, .ref _ _ _ _ _ _ hid⟩
    · cases m with
      | none => simp at hum ⊢; omega
      | some m => simp
    · intro hx
      cases m with
      | none => simp at hx ⊢; have := hex hx; omega
      | some m => simp
    · rw [hlk] at hl'
      injection hl' with hl'
      injection hl' with q1 q2
      subst q1 q2
      obtain ⟨h6, h7⟩ := hok esz rows hlk
      refine ⟨h6, fun hsz => ?_⟩
      obtain ⟨h8, h9⟩ := h7 hsz
      refine ⟨by omega, ?_⟩
      by_cases hML : m.getD cap = L
      · exact .inl (by omega)
      · rcases h9 with h9 | ⟨b, hb1, ha, e', n, h10, h11⟩
        · exact .inl (by omega)
        · refine .inr ⟨b, hb1, ?_, e', n, h10, ?_⟩
          · rw [if_neg hML, ha]
            simp [addr_add, h0', Nat.add_mul]
          · have : base + L + (m.getD cap - L) ≤ base + cap := by omega
            exact Nat.le_trans (Nat.mul_le_mul_right _ this) h11

/-! ### What else computes -/

def aunary (op : UnOp) (x : AVal) : Option AVal :=
  match op, x with
  | .neg, .int k n => some (.int k (k.wrap (0 - n)))
  | .not, .bool b => some (.bool !b)
  | _, _ => none

theorem aunary_ok {op : UnOp} {x y : AVal} {v : Value} (hv : VRel c x v) (hy : aunary op x = some y) : ∃ u, (Op.unary op v).run P w = .ok u w ∧ VRel c y u ∧ Nm p y := by
  unfold aunary at hy
  split at hy
  · cases hv
    injection hy with hy
    subst hy
    exact ⟨_, by simp [Op.unary, Op.intArith], .int _ _, .int _ _⟩
  · cases hv
    injection hy with hy
    subst hy
    exact ⟨_, by simp [Op.unary], .bool _, .bool _⟩
  · cases hy

def aconvert (P : Program) (dst : TypeId) (x : AVal) : Option AVal :=
  match tab P dst, x with
  | some ⟨.int k, _, _, _⟩, .int _ n => some (.int k (k.wrap n))
  | some ⟨.str, _, _, _⟩, .str s => some (.str s)
  | _, _ => none

theorem aconvert_ok {src dst : TypeId} {ts : TI} (hs : tab P src = some ts) {x y : AVal} {v : Value} (hv : VRel c x v) (hy : aconvert P dst x = some y) :
    ∃ u, (convert src dst v).run P w = .ok u w ∧ VRel c y u ∧ Nm p y := by
  obtain ⟨d, hd, _⟩ := run_und (P := P) w hs
  unfold aconvert at hy
  split at hy
  · rename_i k _ _ _ k' n ht
    cases hv
    injection hy with hy
    subst hy
    refine ⟨.int k (k.wrap n), ?_, .int _ _, .int _ _⟩
    simp only [convert, Sem.run_bind, run_underlying hd, run_underlying (und_int ht), Result.andThen_ok]
    cases d <;> simp [Conv.intToInt]
  · rename_i _ _ _ s ht
    cases hv
    injection hy with hy
    subst hy
    refine ⟨.string s, ?_, .str _, .str _⟩
    simp only [convert, Sem.run_bind, run_underlying hd, run_underlying (und_str ht), Result.andThen_ok]
    cases d <;> simp
  · cases hy

def aiface (P : Program) (t : TypeId) (x : AVal) : Option AVal :=
  match tab P t with
  | some ⟨.iface _, _, _, _⟩ => none
  | some _ => some (.iface t x)
  | none => none

theorem aiface_ok {t : TypeId} {x y : AVal} {v : Value} (hv : VRel c x v) (hn : Nm p x) (hy : aiface P t x = some y) : ∃ u, (Instr.makeInterface t v).run P w = .ok u w ∧ VRel c y u ∧ Nm p y := by
  unfold aiface at hy
  split at hy
  · cases hy
  · rename_i ti hk ht
    injection hy with hy
    subst hy
    obtain ⟨d, hd, _, hkd⟩ := run_und (P := P) w ht
    refine ⟨.iface t v, ?_, .iface t x v hv, .iface t x hn⟩
    simp only [Instr.makeInterface, Sem.run_bind, run_underlying hd, Result.andThen_ok]
    cases d <;> simp [kindOf] at hkd ⊢
    rename_i ms
    obtain ⟨kd, a, b, z⟩ := ti
    simp at hkd
    exact hk _ _ _ _ (by rw [← hkd])
  · cases hy

def alen (P : Program) (t : TypeId) (x : AVal) : Option AVal :=
  match tab P t, x with
  | some ⟨.str, _, _, _⟩, .str s => some (.int .i64 s.size)
  | some ⟨.slice _, _, _, _⟩, .sl rows _ => some (.int .i64 rows.length)
  | some ⟨.slice _, _, _, _⟩, .ref _ _ _ len _ _ => some (.int .i64 len)
  | some ⟨.map _ _, _, _, _⟩, .nilmap => some (.int .i64 0)
  | _, _ => none

theorem alen_ok {t ty : TypeId} {x y : AVal} {v : Value} (hv : VRel c x v) (hy : alen P t x = some y) : ∃ u, (Builtin.len_ #[t] ty #[v]).run P w = .ok u w ∧ VRel c y u ∧ Nm p y := by
  unfold alen at hy
  split at hy
  · rename_i ht
    cases hv
    injection hy with hy
    subst hy
    exact ⟨_, by simp [Builtin.len_, run_underlying (und_str ht), goInt], .int _ _, .int _ _⟩
  · rename_i ht
    cases hv
    injection hy with hy
    subst hy
    exact ⟨_, by simp [Builtin.len_, run_underlying (und_slice ht), goInt], .int _ _, .int _ _⟩
  · rename_i ht
    cases hv
    injection hy with hy
    subst hy
    exact ⟨_, by simp [Builtin.len_, run_underlying (und_slice ht), goInt], .int _ _, .int _ _⟩
  · rename_i ht
    cases hv
    injection hy with hy
    subst hy
    exact ⟨_, by simp [Builtin.len_, run_underlying (und_map ht), goInt], .int _ _, .int _ _⟩
  · cases hy

def aminmax (mx : Bool) (x y : AVal) : Option AVal :=
  match x, y with
  | .int k a, .int k' b => if k = k' then some (.int k (if mx then max a b else min a b)) else none
  | _, _ => none

theorem amax_ok {ts : Array TypeId} {ty : TypeId} {x y z : AVal} {v u : Value} (hv : VRel c x v) (hu : VRel c y u) (hz : aminmax true x y = some z) : ∃ r, (Builtin.max_ ts ty #[v, u]).run P w = .ok r w ∧ VRel c z r ∧ Nm p z := by
  unfold aminmax at hz
  split at hz
  case h_2 => cases hz
  rename_i k a k' b
  cases hv; cases hu
  split at hz
  case isFalse => cases hz
  injection hz with hz
  subst hz
  refine ⟨.int k (max a b), ?_, .int _ _, .int _ _⟩
  have : (if b > a then b else a) = max a b := by split <;> omega
  simp [Builtin.max_, Builtin.max2]
  exact this

theorem amin_ok {ts : Array TypeId} {ty : TypeId} {x y z : AVal} {v u : Value} (hv : VRel c x v) (hu : VRel c y u) (hz : aminmax false x y = some z) : ∃ r, (Builtin.min_ ts ty #[v, u]).run P w = .ok r w ∧ VRel c z r ∧ Nm p z := by
  unfold aminmax at hz
  split at hz
  case h_2 => cases hz
  rename_i k a k' b
  cases hv; cases hu
  split at hz
  case isFalse => cases hz
  injection hz with hz
  subst hz
  refine ⟨.int k (min a b), ?_, .int _ _, .int _ _⟩
  have : (if b < a then b else a) = min a b := by split <;> omega
  simp [Builtin.min_, Builtin.min2]
  exact this

end ops
end Go.AM
