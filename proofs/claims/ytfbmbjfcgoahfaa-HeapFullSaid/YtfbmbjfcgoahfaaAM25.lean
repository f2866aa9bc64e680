/-
  AM, part 25: what is handed in reads as rows of abstract cells.
-/
import Derived.Test.YtfbmbjfcgoahfaaAM24
namespace Go.AM
open Go

variable {P : Program} {w : World} {H : Type} {enc : TypeId × Value → H} {base : Nat} {spare : Nat → Bool} {held : Bool}

theorem red_leaf {m : Nat} {t : TypeId} {v : Value} {x : AVal} (hC : P.cellsOf t = 1) (hv : VRel (cx (fun _ => False) (fun _ => none) [] w) x v) (ho : v.oneCell' = true) (hf : Fz x) (hs : Shp P m t [x]) : Red P w m t [v] [x] :=
  ⟨rfl, hC.symm, fun i y u hy hu => by
    cases i with
    | zero => simp at hy hu; subst hy; subst hu; exact ⟨hv, ho⟩
    | succ i => simp at hy, fun y hy => by simp at hy; subst hy; exact hf, hs⟩

theorem spot_of {a : Addr} {v : Value} (h : w.cell? a = some v) : a.spot = none := by
  unfold World.cell? at h
  split at h
  · split at h
    · cases h
    · rename_i hs; simpa using hs
  · cases h

theorem add_plain {a : Addr} (h : a.spot = none) (n : Nat) : a.add n = ⟨a.block, a.off + n, none⟩ := by
  obtain ⟨b, o, s⟩ := a
  simp at h
  subst h
  unfold Addr.add
  split
  · rename_i hn; subst hn; rfl
  · rfl

theorem red_of (hl : laidOutB P = true) : ∀ (m : Nat) (t : TypeId) (cs : List Value) (d : DataW H) (ps : List MemPlace), t < P.types.size → DataW.trod enc P w base spare held m t cs = some (d, ps) → ∃ xs, Red P w m t cs xs := by
  intro m
  induction m with
  | zero => intro t cs d ps _ h; simp [DataW.trod] at h
  | succ m ih =>
    intro t cs d ps ht h
    have hrow := rowFine_of hl ht
    have junk : ∀ v : Value, P.cellsOf t = 1 → v.oneCell' = true → Shp P (m + 1) t [.junk] → ∃ xs, Red P w (m + 1) t [v] xs := fun v h1 h2 h3 => ⟨[.junk], red_leaf h1 (.junk v) h2 .junk h3⟩
    rw [DataW.trod.eq_def] at h
    simp only at h
    split at h
    case h_1 b hu =>
      refine ⟨[.bool b], red_leaf ?_ (.bool b) rfl (.bool b) ?_⟩
      · simpa [rowFine, isVar, ht, hu, kindOk] using hrow
      · simp [Shp, hu]
    case h_2 k k' n hu =>
      split at h
      case isFalse => cases h
      rename_i hk
      obtain ⟨rfl, hk⟩ := hk
      refine ⟨[.int k' n], red_leaf ?_ (.int _ n) rfl (.int _ n) ?_⟩
      · simpa [rowFine, isVar, ht, hu, kindOk] using hrow
      · simp [Shp, hu, hk]
    case h_3 k k' b hu =>
      refine junk _ ?_ rfl ?_
      · simpa [rowFine, isVar, ht, hu, kindOk] using hrow
      · simp [Shp, hu]
    case h_4 s hu =>
      split at h
      case isFalse => cases h
      rename_i hk
      refine ⟨[.str s], red_leaf ?_ (.str s) rfl (.str s) ?_⟩
      · simpa [rowFine, isVar, ht, hu, kindOk] using hrow
      · simp [Shp, hu, hk]
    case h_5 e hu =>
      refine junk _ ?_ rfl ?_
      · have := hrow; simp [rowFine, isVar, ht, hu, kindOk] at this; exact this.2
      · simp [Shp, hu]
    case h_6 e a hu =>
      refine junk _ ?_ rfl ?_
      · have := hrow; simp [rowFine, isVar, ht, hu, kindOk] at this; exact this.2
      · simp [Shp, hu]
    case h_7 e hu =>
      refine ⟨[.sl [] (some 0)], red_leaf ?_ ?_ rfl ?_ ?_⟩
      · have := hrow; simp [rowFine, isVar, ht, hu, kindOk] at this; exact this.2
      · exact .sl [] (some 0) none 0 0 0 0 (fun _ _ => undef) (Nat.le_refl _) (by simp) (by simp) (by simp) (by simp) (by simp)
      · exact .sl [] (some 0) (by simp)
      · simp [Shp, hu]
    case h_8 e a len cap hu =>
      have hC : P.cellsOf t = 1 := by have := hrow; simp [rowFine, isVar, ht, hu, kindOk] at this; exact this.2
      by_cases hz : P.cellsOf e = 0
      · exact junk _ hC rfl (by simp [Shp, hu, hz])
      split at h
      case isFalse => cases h
      rename_i hb
      rw [Option.bind_eq_some_iff] at h
      obtain ⟨elems, he, _⟩ := h
      have hx : ∀ i, ∃ xs, i < len → ∃ cs', w.cells? base (a.add (i * P.cellsOf e)) (P.cellsOf e) = some cs' ∧ Red P w m e cs' xs := fun i => by
        by_cases hi : i < len
        · have h1 := mapM_some_get he i i (by simp [hi])
          have h2 : i < elems.length := by have := mapM_some_length he; simp at this; omega
          rw [List.getElem?_eq_getElem h2, Option.bind_eq_some_iff] at h1
          obtain ⟨cs', h3, h4⟩ := h1
          obtain ⟨xs, h5⟩ := ih e cs' elems[i].1 elems[i].2 (kid_slice hl ht hu) h4
          exact ⟨xs, fun _ => ⟨cs', h3, h5⟩⟩
        · exact ⟨[], fun h => absurd h hi⟩
      obtain ⟨f, hf⟩ := Classical.axiomOfChoice hx
      have hlen : ((List.range len).map f).length = len := by simp
      have hat : ∀ (i : Nat) r, ((List.range len).map f)[i]? = some r → i < len ∧ r = f i := fun i r hr => by
        rw [List.getElem?_map] at hr
        obtain ⟨k, hk, rfl⟩ := Option.map_eq_some_iff.1 hr
        obtain ⟨h1, h2⟩ := List.getElem?_eq_some_iff.1 hk
        simp at h1 h2
        subst h2
        exact ⟨h1, rfl⟩
      have hspot : 0 < len → a.spot = none := fun h0 => by
        obtain ⟨cs', h1, h2⟩ := hf 0 h0
        obtain ⟨_, h3, h4⟩ := World.cells?_some h1
        have h5 := h4 0 (by omega)
        rw [Nat.zero_mul] at h5
        have h6 : 0 < cs'.length := by omega
        rw [List.getElem?_eq_getElem h6] at h5
        exact spot_of h5
      have hcell : ∀ (i : Nat) r (j : Nat) x, ((List.range len).map f)[i]? = some r → r[j]? = some x → ∃ v, w.cell? ⟨a.block, a.off + (i * P.cellsOf e + j), none⟩ = some v ∧ VRel (cx (fun _ => False) (fun _ => none) [] w) x v ∧ v.oneCell' = true := fun i r j x hr hj => by
        obtain ⟨hi, rfl⟩ := hat i r hr
        obtain ⟨cs', h1, h2⟩ := hf i hi
        obtain ⟨_, h3, h4⟩ := World.cells?_some h1
        have hjl : j < cs'.length := by rw [← h2.len]; exact (List.getElem?_eq_some_iff.1 hj).1
        have h5 := h4 j (by omega)
        have hs := hspot (by omega)
        rw [add_plain hs, add_plain rfl, List.getElem?_eq_getElem hjl] at h5
        refine ⟨cs'[j], ?_, h2.rel j x _ hj (List.getElem?_eq_getElem hjl)⟩
        rw [← h5]
        simp [Nat.add_assoc]
      refine ⟨[.sl ((List.range len).map f) none], red_leaf hC ?_ rfl ?_ ?_⟩
      · have key : VRel (cx (fun _ => False) (fun _ => none) [] w) (.sl ((List.range len).map f) none) (.slice (some a) ((List.range len).map f).length cap) := by
          refine .sl _ none (some a) cap (P.cellsOf e) a.block a.off (fun i j => (w.cell? ⟨a.block, a.off + (i * P.cellsOf e + j), none⟩).getD undef) (by rw [hlen]; exact hb.2.1) (fun l hl => by cases hl) (fun r hr => ?_) (fun hne => ?_) (fun i r j x hr hj => ?_) (fun i r j x hr hj => ?_)
          · obtain ⟨i, hi⟩ := List.getElem?_of_mem hr
            obtain ⟨h1, rfl⟩ := hat i r hi
            obtain ⟨cs', h2, h3⟩ := hf i h1
            rw [h3.len, h3.size]
          · have : 0 < len := by
              rcases Nat.eq_zero_or_pos len with h0 | h0
              · subst h0; simp at hne
              · exact h0
            have hs := hspot this
            obtain ⟨b, o, s⟩ := a
            simp at hs
            subst hs
            rfl
          · obtain ⟨v, h1, h2, h3⟩ := hcell i r j x hr hj
            refine ⟨by simp [cx, owns, lk], ?_, ?_⟩
            · show w.cell? _ = _
              rw [h1]; rfl
            · rw [h1]; exact h3
          · obtain ⟨v, h1, h2, h3⟩ := hcell i r j x hr hj
            rw [h1]; exact h2
        rw [hlen] at key
        exact key
      · refine .sl _ none fun r hr x hx => ?_
        obtain ⟨i, hi⟩ := List.getElem?_of_mem hr
        obtain ⟨h1, rfl⟩ := hat i r hi
        obtain ⟨cs', h2, h3⟩ := hf i h1
        exact h3.fz x hx
      · simp only [Shp, hu]
        refine .inr ⟨_, _, rfl, by rw [hlen]; omega, fun r hr => ?_⟩
        obtain ⟨i, hi⟩ := List.getElem?_of_mem hr
        obtain ⟨h1, rfl⟩ := hat i r hi
        obtain ⟨cs', h2, h3⟩ := hf i h1
        exact h3.shp
    case h_9 cs0 _ _ fs hu =>
      split at h
      case isFalse => cases h
      rename_i hlen
      obtain ⟨k1, k2, k3⟩ := kid_struct hl ht hu
      rw [Option.map_eq_some_iff] at h
      obtain ⟨ys, he, _⟩ := h
      have hfl := mapM_some_length he
      have e0 : fs.toList.map (fun f => P.cellsOf f.type) = (fs.toList.map (·.type)).map P.cellsOf := by rw [List.map_map]; rfl
      obtain ⟨parts, p1, p2, p3, p4, p5⟩ := red_flat (P := P) (w := w) (m := m) (fs.toList.map (·.type)) cs0 (by rw [hlen, k2, e0]) fun j u hu' => by
        rw [List.getElem?_map] at hu'
        obtain ⟨f, hf, rfl⟩ := Option.map_eq_some_iff.1 hu'
        have h1 := mapM_some_get he j f hf
        have h2 : j < ys.length := by have := (List.getElem?_eq_some_iff.1 hf).1; omega
        rw [List.getElem?_eq_getElem h2, k3 j f hf] at h1
        have := ih f.type _ ys[j].1 ys[j].2 (k1 f (List.mem_of_getElem? hf)) h1
        rw [← List.map_take, List.map_map]
        exact this
      refine ⟨parts.flatten, p2, hlen, p3, p4, ?_⟩
      simp only [Shp, hu]
      exact ⟨parts, rfl, by simpa using p1, fun j f ys hf hy => p5 j f.type ys (by simp [hf]) hy⟩
    case h_10 cs0 _ _ n e hu =>
      split at h
      case isFalse => cases h
      rename_i hlen
      obtain ⟨k1, k2⟩ := kid_array hl ht hu
      rw [Option.map_eq_some_iff] at h
      obtain ⟨ys, he, _⟩ := h
      have hfl := mapM_some_length he
      have es : ∀ q : Nat, ((List.replicate q e).map P.cellsOf).sum = q * P.cellsOf e := fun q => by simp
      obtain ⟨parts, p1, p2, p3, p4, p5⟩ := red_flat (P := P) (w := w) (m := m) (List.replicate n e) cs0 (by rw [hlen, k2, es]) fun j u hu' => by
        rw [List.getElem?_replicate] at hu'
        split at hu'
        case isFalse => cases hu'
        rename_i hj
        injection hu' with hu'
        subst hu'
        have h1 := mapM_some_get he j j (by simp [hj])
        have h2 : j < ys.length := by simp at hfl; omega
        rw [List.getElem?_eq_getElem h2] at h1
        have := ih e _ ys[j].1 ys[j].2 k1 h1
        rw [List.take_replicate, Nat.min_eq_left (by omega), es]
        exact this
      refine ⟨parts.flatten, p2, hlen, p3, p4, ?_⟩
      simp only [Shp, hu]
      refine ⟨parts, rfl, by simpa using p1, fun ys hy => ?_⟩
      obtain ⟨j, hj⟩ := List.getElem?_of_mem hy
      have hjl : j < n := by have := (List.getElem?_eq_some_iff.1 hj).1; simp at p1; omega
      exact p5 j e ys (by rw [List.getElem?_replicate, if_pos hjl]) hj
    all_goals first
      | (rename_i hu; exact junk _ (by simpa [rowFine, isVar, ht, hu, kindOk] using hrow) rfl (by simp [Shp, hu]))
      | cases h

end Go.AM
