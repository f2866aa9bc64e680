/-
  AM, part 41: what is handed in, as a typed value.
-/
import Derived.Test.YtfbmbjfcgoahfaaAM40
set_option linter.unusedVariables false
namespace Go.AM
open Go

/-- Fields, one behind the other. -/
def StS (P : Program) (m : Nat) : List TypeId → List AVal → Prop
  | [], xs => xs = []
  | t :: ts, xs => ∃ a b, xs = a ++ b ∧ Shp P m t a ∧ StS P m ts b

theorem sts_of {P : Program} {m : Nat} : ∀ {ts : List TypeId} {parts : List (List AVal)}, parts.length = ts.length → (∀ (j : Nat) t ys, ts[j]? = some t → parts[j]? = some ys → Shp P m t ys) → StS P m ts parts.flatten
  | [], [], _, _ => rfl
  | t :: ts, p :: ps, hl, h => ⟨p, ps.flatten, by simp, h 0 t p rfl rfl, sts_of (by simpa using hl) fun j u ys hu hy => h (j + 1) u ys (by simpa using hu) (by simpa using hy)⟩
  | [], _ :: _, hl, _ => by simp at hl
  | _ :: _, [], hl, _ => by simp at hl

abbrev FrC0 (xs ys : List AVal) : Prop := FrC [] (fun _ => False) xs ys

/-- What the cells of a type are, the spare room of slices forgotten. -/
def RdC (P : Program) (t : TypeId) (C : List AVal → Prop) : Prop := ∀ m xs, Shp P m t xs → ∃ ys, FrC0 xs ys ∧ C ys

def RdS (P : Program) (ts : List TypeId) (C : List AVal → Prop) : Prop := ∀ m xs, StS P m ts xs → ∃ ys, FrC0 xs ys ∧ C ys

section
variable {P : Program} {t e : TypeId} {ts : List TypeId}

theorem RdC.mono {C D : List AVal → Prop} (h : RdC P t C) (hd : ∀ ys, C ys → D ys) : RdC P t D := fun m xs hx => let ⟨ys, h1, h2⟩ := h m xs hx; ⟨ys, h1, hd ys h2⟩

theorem rd_nil : RdS P [] (fun ys => ys = []) := fun m xs h => ⟨[], by rw [show xs = [] from h]; exact .nil, rfl⟩

theorem rd_cons {C D : List AVal → Prop} (h1 : RdC P t C) (h2 : RdS P ts D) : RdS P (t :: ts) (fun ys => ∃ a b, ys = a ++ b ∧ C a ∧ D b) := by
  rintro m xs ⟨a, b, rfl, ha, hb⟩
  obtain ⟨a', f1, c1⟩ := h1 m a ha
  obtain ⟨b', f2, c2⟩ := h2 m b hb
  exact ⟨a' ++ b', f1.append f2, a', b', rfl, c1, c2⟩

theorem rd_int {k : IntKind} (ht : P.underlying t = some (.int k)) : RdC P t (fun ys => ∃ n, ys = [.int k n] ∧ (Lit.int k n).wf = true) := fun m xs h => by
  cases m with
  | zero => exact h.elim
  | succ m =>
    simp only [Shp, ht] at h
    obtain ⟨n, rfl, hn⟩ := h
    exact ⟨_, .refl _, n, rfl, hn⟩

theorem rd_i64 (ht : P.underlying t = some (.int .i64)) : RdC P t (fun ys => ∃ n, ys = [.int .i64 n] ∧ -9223372036854775808 ≤ n ∧ n ≤ 9223372036854775807) :=
  (rd_int ht).mono fun _ ⟨n, h1, h2⟩ => ⟨n, h1, (wf_i64 h2).1, by have := (wf_i64 h2).2; omega⟩

theorem rd_u64 (ht : P.underlying t = some (.int .u64)) : RdC P t (fun ys => ∃ n, ys = [.int .u64 n] ∧ 0 ≤ n ∧ n ≤ 18446744073709551615) :=
  (rd_int ht).mono fun _ ⟨n, h1, h2⟩ => ⟨n, h1, (wf_u64 h2).1, by have := (wf_u64 h2).2; omega⟩

theorem rd_bool (ht : P.underlying t = some .bool) : RdC P t (fun ys => ∃ b, ys = [.bool b]) := fun m xs h => by
  cases m with
  | zero => exact h.elim
  | succ m =>
    simp only [Shp, ht] at h
    obtain ⟨n, rfl⟩ := h
    exact ⟨_, .refl _, n, rfl⟩

theorem rd_str (ht : P.underlying t = some .string) : RdC P t (fun ys => ∃ s : ByteArray, ys = [.str s] ∧ s.size ≤ maxLen) := fun m xs h => by
  cases m with
  | zero => exact h.elim
  | succ m =>
    simp only [Shp, ht] at h
    obtain ⟨n, rfl, hn⟩ := h
    exact ⟨_, .refl _, n, rfl, hn⟩

theorem rd_struct {fs : Array Field} {C : List AVal → Prop} (ht : P.underlying t = some (.struct fs)) (h : RdS P (fs.toList.map (·.type)) C) : RdC P t C := fun m xs hx => by
  cases m with
  | zero => exact hx.elim
  | succ m =>
    simp only [Shp, ht] at hx
    obtain ⟨parts, rfl, hl, hp⟩ := hx
    refine h m _ (sts_of (by simpa using hl) fun j u ys hu hy => ?_)
    rw [List.getElem?_map] at hu
    obtain ⟨f, hf, rfl⟩ := Option.map_eq_some_iff.1 hu
    exact hp j f ys hf hy

theorem rd_array {n : Nat} {C : List AVal → Prop} (ht : P.underlying t = some (.array n e)) (h : RdS P (List.replicate n e) C) : RdC P t C := fun m xs hx => by
  cases m with
  | zero => exact hx.elim
  | succ m =>
    simp only [Shp, ht] at hx
    obtain ⟨parts, rfl, hl, hp⟩ := hx
    refine h m _ (sts_of (by simpa using hl) fun j u ys hu hy => ?_)
    rw [List.getElem?_replicate] at hu
    split at hu
    · injection hu with hu
      subst hu
      exact hp ys (List.mem_of_getElem? hy)
    · cases hu

theorem frR_of {α : Type} [Enc α] {wf : α → Prop} : ∀ {rs : List (List AVal)}, (∀ r, r ∈ rs → ∃ ys, FrC0 r ys ∧ ∃ a : α, ys = Enc.enc a ∧ wf a) → ∃ l : List α, FrR [] (fun _ => False) rs (rws l) ∧ ∀ a, a ∈ l → wf a
  | [], _ => ⟨[], .nil, by simp⟩
  | r :: rs, h => by
    obtain ⟨l, h1, h2⟩ := frR_of (rs := rs) (wf := wf) fun r hr => h r (List.mem_cons_of_mem _ hr)
    obtain ⟨ys, h3, a, rfl, h4⟩ := h r (by simp)
    refine ⟨a :: l, .cons h3 h1, fun b hb => ?_⟩
    rcases List.mem_cons.1 hb with rfl | hb
    · exact h4
    · exact h2 b hb

theorem rd_slice {α : Type} [Enc α] {wf : α → Prop} (ht : P.underlying t = some (.slice e)) (hc : (P.cellsOf e == 0) = false) (he : RdC P e (fun ys => ∃ a : α, ys = Enc.enc a ∧ wf a)) :
    RdC P t (fun ys => ∃ l : List α, ys = [.sl (rws l) none] ∧ l.length ≤ maxLen ∧ ∀ a, a ∈ l → wf a) := fun m xs hx => by
  cases m with
  | zero => exact hx.elim
  | succ m =>
    simp only [Shp, ht] at hx
    rcases hx with h | ⟨rs, lim, rfl, h2, h3⟩
    · simp [h] at hc
    · obtain ⟨l, h4, h5⟩ := frR_of (wf := wf) fun r hr => he m r (h3 r hr)
      exact ⟨_, .cons (.slR h4) .nil, l, rfl, by rw [← rws_length, h4.len]; exact h2, h5⟩

end

/-! ### A law's parameters -/

theorem hin0 (w : World) : HIn (fun _ => False) (fun _ => none) (fun _ => True) [] w :=
  ⟨fun id o h => by simp [lk] at h, fun id o h => by simp [lk] at h, fun id id' o o' b h => by simp [lk] at h, fun b h => h.elim⟩

theorem rel0 {w : World} {x y : AVal} {v : Value} (f : Frz [] (fun _ => False) x y) (h : VRel (cx (fun _ => False) (fun _ => none) [] w) x v) : VRel (cx (fun _ => False) (fun _ => none) [] w) y v :=
  Frz.rel (hin0 w) (fun _ h => h.elim) (fun _ _ _ h => h.elim) f v h

variable {P : Program} {w : World} {H : Type} {enc : TypeId × Value → H} {base : Nat} {spare : Nat → Bool} {held : Bool}

theorem arg_agg_rd (hl : laidOutB P = true) {t : TypeId} {cs : Array Value} {d : DataW H} {ps : List MemPlace} {C : List AVal → Prop} (ht : t < P.types.size) (hr : RdC P t C) (h : DataW.Trod enc P w base spare held t (.agg cs) d ps) :
    ∃ xs, VRel (cx (fun _ => False) (fun _ => none) [] w) (.agg xs) (.agg cs) ∧ C xs := by
  obtain ⟨m, xs, h1, h2, h3⟩ := arg_agg hl ht h
  obtain ⟨ys, h4, h5⟩ := hr m xs h3
  exact ⟨ys, rel0 (.aggC h4) h1, h5⟩

theorem arg_slice_rd (hl : laidOutB P = true) {t : TypeId} {a : Option Addr} {len cap : Nat} {d : DataW H} {ps : List MemPlace} {C : List AVal → Prop} (ht : t < P.types.size) (hr : RdC P t C) (h : DataW.Trod enc P w base spare held t (.slice a len cap) d ps) :
    ∃ x, VRel (cx (fun _ => False) (fun _ => none) [] w) x (.slice a len cap) ∧ C [x] := by
  obtain ⟨m, x, h1, h2, h3⟩ := arg_slice hl ht h
  obtain ⟨ys, h4, h5⟩ := hr m [x] h3
  cases h4 with | cons h6 h7 =>
  cases h7 with | nil =>
  exact ⟨_, rel0 h6 h1, h5⟩

end Go.AM
