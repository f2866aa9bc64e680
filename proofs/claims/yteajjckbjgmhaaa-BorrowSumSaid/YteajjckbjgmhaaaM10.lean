/-
  How long a handed list may be (AM49); what Bounds answers: plain laws (M10p).
-/
import Derived.Test.YteajjckbjgmhaaaAM41
import Derived.SizedLaws
import Derived.Test.YteajjckbjgmhaaaF25
import Derived.Test.YteajjckbjgmhaaaAM48

section
set_option linter.unusedVariables false
namespace Go.AM
open Go

variable {P : Program} {w : World} {H : Type} {enc : TypeId × Value → H} {base : Nat} {spare : Nat → Bool} {held : Bool}

theorem trod_slice_le {t e : TypeId} (ht : P.underlying t = some (.slice e)) {a : Option Addr} {len cap : Nat} {d : DataW H} {ps : List MemPlace} (h : DataW.Trod enc P w base spare held t (.slice a len cap) d ps) :
    len = 0 ∨ ∃ elems sp, d = .slice elems sp ∧ elems.length = len := by
  obtain ⟨fuel, h⟩ := h
  cases fuel with
  | zero => simp [DataW.trod] at h
  | succ fuel =>
    have hc : (Value.slice a len cap).cells.toList = [.slice a len cap] := rfl
    rw [hc] at h
    cases a with
    | none =>
      cases len with
      | zero => exact .inl rfl
      | succ n => simp [DataW.trod, ht] at h
    | some a =>
      simp only [DataW.trod, ht] at h
      split at h
      case isFalse => cases h
      rw [Option.bind_eq_some_iff] at h
      obtain ⟨elems, he, h⟩ := h
      obtain ⟨rest, _, h⟩ := Option.map_eq_some_iff.1 h
      injection h with h1 h2
      have := mapM_some_length he
      simp at this
      exact .inr ⟨_, _, h1.symm, by simp; omega⟩

/-- The length of a list that is handed in, times the size of what it is of, is within a machine's reach. -/
theorem slice_reach {ts : List TypeId} {ds : List (DataW H)} (hsz : (DataW.weightsEach P ts ds).all (· ≤ reachBytes) = true) {j : Nat} {t e : TypeId} (hj : ts[j]? = some t) {a : Option Addr} {len cap : Nat} {d : DataW H} {ps : List MemPlace} (hd : ds[j]? = some d) (ht : P.underlying t = some (.slice e))
    (h : DataW.Trod enc P w base spare held t (.slice a len cap) d ps) {c : Cx} {α : Type} [Enc α] {l : List α} (hr : VRel c (.sl (rws l) Option.none) (.slice a len cap)) : l.length * P.bytesOf e ≤ 140737488351232 := by
  have hl : l.length = len := by
    cases hr
    exact (rws_length l).symm
  rcases trod_slice_le ht h with h0 | ⟨elems, sp, rfl, h1⟩
  · rw [hl, h0]
    simp
  · have h2 := sized_slice hsz hj hd ht
    have h3 : elems.length * P.bytesOf e ≤ (elems.length + sp.length) * P.bytesOf e := Nat.mul_le_mul_right _ (by omega)
    have h4 : reachBytes = 140737488351232 := rfl
    rw [hl, ← h1]
    omega

end Go.AM
end

section
namespace Go.Proofs.Yteajjckbjgmhaaa
open Go Go.AM
set_option maxHeartbeats 8000000
set_option maxRecDepth 8000
set_option linter.unusedSimpArgs false
set_option linter.unusedVariables false
attribute [local go_sem] ty3 ty4 ty9 ty22 ty26 ty33 ty34 ty38 eg38 si38 ty39 eg39 si39 ty43 eg43 si43 ty44 eg44 si44 ty51 ty56 eg56 si56 ty57 eg57 si57 ty62 ty63 eg63 si63 ty64 eg64 si64 ty69 ty77

instance : Enc Lv := ⟨fl, 10, fun _ => rfl, fun x y h => fl_fz x y h⟩
instance : Enc Bd := ⟨fb, 3, fun _ => rfl, fun x y h => fb_fz x y h⟩
theorem enc_Lv (x : Lv) : Enc.enc x = [.str x.nm, .int .i64 x.k, .int .i64 x.s, .int .i64 x.ln, .int .i64 x.bo, .int .i64 x.q, .int .i64 x.h, .int .i64 x.le, .int .i64 x.w, .int .i64 x.g] := rfl
theorem enc_Bd (x : Bd) : Enc.enc x = [.int .i64 x.1, .int .i64 x.2.1, .int .i64 x.2.2] := rfl
theorem size_Lv : Enc.size Lv = 10 := rfl
theorem size_Bd : Enc.size Bd = 3 := rfl
attribute [local go_sem] enc_Lv enc_Bd size_Lv size_Bd

/-- What Bounds answers: an error, or bounds that hold. -/
structure BV (total : Int) (l : List Lv) (B : List Bd) : Prop where
  t : 0 ≤ total ∧ total ≤ 4096
  n : l.length ≤ 16
  len : B.length = l.length
  sum : (B.map (·.1)).sum = total
  at_ : ∀ (i : Nat) x, l[i]? = some x → ∃ p, B[i]? = some (p, p - p * x.ln / 100, if 0 ≤ x.bo then min total (p + p * x.bo / 100) else total) ∧ 0 ≤ p ∧ p ≤ total ∧ 0 ≤ x.ln ∧ x.ln ≤ 100 ∧ -1 ≤ x.bo ∧ x.bo ≤ 1000
  ord : ∀ (i k : Nat) x y b c, l[i]? = some x → l[k]? = some y → B[i]? = some b → B[k]? = some c → y.s < x.s → c.1 ≤ b.1

theorem gt_shr {l : List Lv} {i : Nat} {x : Lv} (h : l[i]? = some x) : gt (shr l) i = x.s := by
  unfold shr
  exact gt_map (fun x : Lv => x.s) h

theorem bnds_nom (total : Int) (l : List Lv) : (bnds total l).map (·.1) = parts total (shr l) := by
  unfold bnds
  refine List.ext_getElem? fun i => ?_
  rw [List.getElem?_map, List.getElem?_zipWith]
  have hl := parts_length total (shr l)
  rw [shr_length] at hl
  rcases Nat.lt_or_ge i l.length with h | h
  · rw [List.getElem?_eq_getElem (show i < (parts total (shr l)).length by omega), List.getElem?_eq_getElem h]
    rfl
  · rw [List.getElem?_eq_none (show (parts total (shr l)).length ≤ i by omega)]
    rfl

theorem bou_cases (total : Int) (l : List Lv) (hl : l.length ≤ maxLen) : (∃ e, e ≠ 0 ∧ bou total l = ([], e)) ∨ ∃ B, bou total l = (B, 0) ∧ BV total l B := by
  rcases spl_cases total (shr l) with ⟨e, he, hs⟩ | ⟨v, hs⟩
  · exact .inl ⟨e, he, by unfold bou; rw [hs, if_pos he]⟩
  · have hr : bou total l = if l.all okL then (bnds total l, 0) else ([], 8) := by unfold bou; rw [hs, if_neg (by simp)]
    by_cases hk : l.all okL = true
    · rw [if_pos hk] at hr
      refine .inr ⟨_, hr, ⟨v.t, by have := v.n; rwa [shr_length] at this, bnds_length, by rw [bnds_nom, parts_sum v], fun i x hx => ?_, fun i k x y b c hx hy hb hc hlt => ?_⟩⟩
      · have hi : i < l.length := (List.getElem?_eq_some_iff.1 hx).1
        have h1 := parts_whole v (i := i) (by rw [shr_length]; exact hi)
        have h2 := List.all_eq_true.1 hk x (List.mem_of_getElem? hx)
        simp only [okL, Bool.and_eq_true, decide_eq_true_eq] at h2
        have h3 := gt_le_sum (xs := parts total (shr l)) (fun j hj => (parts_whole v (i := j) (by rw [parts_length] at hj; exact hj)).2.2.1) (i := i) (by rw [parts_length, shr_length]; exact hi)
        rw [parts_sum v] at h3
        exact ⟨gt (parts total (shr l)) i, bnds_get hx, h1.2.2.1, h3, h2.1.1.1, h2.1.1.2, h2.1.2, h2.2⟩
      · have hi : i < l.length := (List.getElem?_eq_some_iff.1 hx).1
        have hk2 : k < l.length := (List.getElem?_eq_some_iff.1 hy).1
        rw [bnds_get hx] at hb
        rw [bnds_get hy] at hc
        injection hb with hb
        injection hc with hc
        subst hb
        subst hc
        exact (parts_order v (i := i) (k := k) (by rw [shr_length]; exact hi) (by rw [shr_length]; exact hk2) (.inl (by rw [gt_shr hx, gt_shr hy]; exact hlt))).1
    · rw [if_neg hk] at hr
      exact .inl ⟨8, by omega, hr⟩

theorem bounds_bad {total : Int} {l : List Lv} (hl : l.length ≤ 2199023255552) {e : Int} (he : e ≠ 0) (h : bou total l = ([], e)) : PCall Try.prog 37 [.int .i64 total, .sl (rws l) none] (· = .tuple [.sl [] (some 0), .int .i64 e]) := by
  have := bounds_ok total l none hl
  rw [h] at this
  simp only [bouV, limOf, if_neg he] at this
  exact this
theorem bounds_good {total : Int} {l : List Lv} (hl : l.length ≤ 2199023255552) {B : List Bd} (h : bou total l = (B, 0)) : PCall Try.prog 37 [.int .i64 total, .sl (rws l) none] (· = .tuple [.sl (rws B) none, .int .i64 0]) := by
  have := bounds_ok total l none hl
  rw [h] at this
  simp only [bouV, limOf, if_true] at this
  exact this

theorem sumle_map {α : Type} {f g : α → Int} : ∀ {L : List α}, (∀ x, x ∈ L → f x ≤ g x) → (L.map f).sum ≤ (L.map g).sum
  | [], _ => Int.le_refl _
  | a :: L, h => by
    simp only [List.map_cons, List.sum_cons]
    have h1 := h a List.mem_cons_self
    have h2 := sumle_map (L := L) fun x hx => h x (List.mem_cons_of_mem _ hx)
    omega

/-- So much of a sum, at most. -/
theorem sum_part {α : Type} {f : α → Int} {c : Int} {L : List α} (h : ∀ x, x ∈ L → 0 ≤ f x ∧ f x ≤ c) (hc : 0 ≤ c) : ∀ i : Nat, 0 ≤ ((L.take i).map f).sum ∧ ((L.take i).map f).sum ≤ c * i
  | 0 => by simp
  | i + 1 => by
    obtain ⟨h1, h2⟩ := sum_part h hc i
    rw [Int.natCast_succ, Int.mul_add]
    rcases Nat.lt_or_ge i L.length with h3 | h3
    · obtain ⟨x, hx⟩ := Go.AM.some_of_lt h3
      rw [sum_take hx]
      have := h x (List.mem_of_getElem? hx)
      omega
    · rw [List.take_of_length_le (by omega)]
      rw [List.take_of_length_le h3] at h1 h2
      omega

/-- What holds of each bound. -/
theorem BV.row {total : Int} {l : List Lv} {B : List Bd} (v : BV total l B) {i : Nat} {b : Bd} (hb : B[i]? = some b) : 0 ≤ b.2.1 ∧ b.2.1 ≤ b.1 ∧ b.1 ≤ b.2.2 ∧ b.2.2 ≤ total := by
  have hi : i < B.length := (List.getElem?_eq_some_iff.1 hb).1
  obtain ⟨x, hx⟩ := Go.AM.some_of_lt (l := l) (i := i) (by have := v.len; omega)
  obtain ⟨p, h1, h2, h3, h4, h5, h6, h7⟩ := v.at_ i x hx
  rw [hb] at h1
  injection h1 with h1
  subst h1
  have m1 := Int.mul_nonneg h2 h4
  have m2 := Int.mul_le_mul_of_nonneg_left h5 h2
  refine ⟨by simp only []; omega, by simp only []; omega, ?_, ?_⟩
  · simp only []
    split
    · rename_i h
      have m3 := Int.mul_nonneg h2 h
      omega
    · exact h3
  · simp only []
    split <;> omega

/-- What the law BoundsShut asks of each bound. -/
theorem BV.shut {total : Int} {l : List Lv} {B : List Bd} (v : BV total l B) {i : Nat} {x : Lv} {b : Bd} (hx : l[i]? = some x) (hb : B[i]? = some b) : (x.ln = 0 → b.2.1 = b.1) ∧ (x.ln = 100 → b.2.1 = 0) ∧ (x.bo = 0 → b.2.2 = b.1) ∧ (x.bo = -1 → b.2.2 = total) := by
  obtain ⟨p, h1, h2, h3, h4, h5, h6, h7⟩ := v.at_ i x hx
  rw [hb] at h1
  injection h1 with h1
  subst h1
  refine ⟨fun e => ?_, fun e => ?_, fun e => ?_, fun e => ?_⟩
  · simp only [e]
    omega
  · simp only [e]
    omega
  · simp only [e, Int.le_refl, if_true, Int.mul_zero]
    omega
  · simp only [e]
    rfl

theorem BV.order {total : Int} {l : List Lv} {B : List Bd} (v : BV total l B) {i k : Nat} {x y : Lv} {b c : Bd} (hx : l[i]? = some x) (hy : l[k]? = some y) (hb : B[i]? = some b) (hc : B[k]? = some c) (hs : y.s < x.s) :
    c.1 ≤ b.1 ∧ (x.bo = y.bo → c.2.2 ≤ b.2.2) ∧ (x.ln = y.ln → c.2.1 ≤ b.2.1) := by
  have h0 := v.ord i k x y b c hx hy hb hc hs
  obtain ⟨p, h1, h2, h3, h4, h5, h6, h7⟩ := v.at_ i x hx
  obtain ⟨q, g1, g2, g3, g4, g5, g6, g7⟩ := v.at_ k y hy
  rw [hb] at h1
  injection h1 with h1
  subst h1
  rw [hc] at g1
  injection g1 with g1
  subst g1
  simp only [] at h0
  refine ⟨h0, fun e => ?_, fun e => ?_⟩
  · simp only [e]
    split
    · rename_i h
      have m1 := Int.mul_le_mul_of_nonneg_right h0 h
      omega
    · exact Int.le_refl _
  · simp only [e]
    have m1 := Int.mul_le_mul_of_nonneg_left g5 (show 0 ≤ p - q by omega)
    have m2 : (p - q) * y.ln = p * y.ln - q * y.ln := Int.sub_mul _ _ _
    omega

theorem rd_Lv : RdC Try.prog 57 (fun ys => ∃ x : Lv, ys = Enc.enc x ∧ True) := by
  refine RdC.mono (rd_struct Try.underlying57 (show RdS Try.prog [9, 3, 3, 3, 3, 3, 3, 3, 3, 3] _ from (rd_cons (rd_str Try.underlying9) (rd_cons (rd_i64 Try.underlying3) (rd_cons (rd_i64 Try.underlying3) (rd_cons (rd_i64 Try.underlying3) (rd_cons (rd_i64 Try.underlying3) (rd_cons (rd_i64 Try.underlying3) (rd_cons (rd_i64 Try.underlying3) (rd_cons (rd_i64 Try.underlying3) (rd_cons (rd_i64 Try.underlying3) (rd_cons (rd_i64 Try.underlying3) rd_nil)))))))))))) ?_
  rintro ys ⟨_, _, rfl, ⟨x0, rfl, h0⟩, ⟨_, _, rfl, ⟨x1, rfl, h1⟩, ⟨_, _, rfl, ⟨x2, rfl, h2⟩, ⟨_, _, rfl, ⟨x3, rfl, h3⟩, ⟨_, _, rfl, ⟨x4, rfl, h4⟩, ⟨_, _, rfl, ⟨x5, rfl, h5⟩, ⟨_, _, rfl, ⟨x6, rfl, h6⟩, ⟨_, _, rfl, ⟨x7, rfl, h7⟩, ⟨_, _, rfl, ⟨x8, rfl, h8⟩, ⟨_, _, rfl, ⟨x9, rfl, h9⟩, rfl⟩⟩⟩⟩⟩⟩⟩⟩⟩⟩
  exact ⟨⟨x0, x1, x2, x3, x4, x5, x6, x7, x8, x9⟩, rfl, trivial⟩

end Go.Proofs.Yteajjckbjgmhaaa
end
