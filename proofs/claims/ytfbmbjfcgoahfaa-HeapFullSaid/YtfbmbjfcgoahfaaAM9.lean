/-
  AM, part 9: append and clear, as operations over abstract states.
-/
import Derived.Test.YtfbmbjfcgoahfaaAM8
namespace Go.AM
open Go

section
variable {P : Program} {ext : Nat → Prop} {β : Nat → Option Nat} {p : Nat → Prop} {h : Heap} {w : World} {fresh : Nat}

/-- Another list of the same objects. -/
theorem HIn.congr (hin : HIn ext β p h w) {h' : Heap} (e : ∀ j, lk h' j = lk h j) :
    HIn ext β p h' w ∧ Evo (owns β h) w (owns β h') w ∧ ∀ q, Step q (cx ext β h w) (cx ext β h' w) := by
  have hown : ∀ b, owns β h' b ↔ owns β h b := fun b => ⟨fun ⟨j, o, h1, h2⟩ => ⟨j, o, e j ▸ h1, h2⟩, fun ⟨j, o, h1, h2⟩ => ⟨j, o, (e j).symm ▸ h1, h2⟩⟩
  have st : ∀ q, Step q (cx ext β h w) (cx ext β h' w) := fun q =>
    { cell := fun b o v h1 h2 => ⟨fun h3 => h1 (h3.imp (fun e => e) fun h4 => (hown b).1 h4), h2⟩
      shape := fun _ _ h => h
      arr := fun id _ esz rows h1 => ⟨rows, (e id).symm.trans h1, Nat.le_refl _, fun _ => rfl⟩
      mp := fun id _ es h1 => ⟨es, (e id).symm.trans h1, rfl⟩ }
  refine ⟨⟨fun id o ho => ?_, fun id o ho => hin.nm id o (e id ▸ ho), fun id id' o o' b h1 h2 => hin.inj id id' o o' b (e id ▸ h1) (e id' ▸ h2), fun b hb => ⟨(hin.ext b hb).1, fun h1 => (hin.ext b hb).2 ((hown b).1 h1)⟩⟩,
    ⟨Nat.le_refl _, fun _ _ _ => rfl, fun b _ h1 => (hown b).1 h1, fun _ _ h => h, rfl, rfl, rfl⟩, st⟩
  rw [e] at ho
  exact ObIn.step (st p) rfl (fun _ _ => rfl) (hin.nm id o ho).2 (hin.ob id o ho)

/-- An object that has no block yet. -/
theorem HIn.unborn (hin : HIn ext β p h w) (hpf : ¬ p fresh) (esz : Nat) :
    HIn ext (fun j => if j = fresh then none else β j) (fun j => p j ∨ j = fresh) ((fresh, .arr esz []) :: h) w ∧
    Evo (owns β h) w (owns (fun j => if j = fresh then none else β j) ((fresh, .arr esz []) :: h)) w ∧
    Step p (cx ext β h w) (cx ext (fun j => if j = fresh then none else β j) ((fresh, .arr esz []) :: h) w) := by
  have hlk : ∀ j, lk ((fresh, .arr esz []) :: h) j = if j = fresh then some (.arr esz []) else lk h j := fun j => by
    simp only [lk]
    by_cases e : fresh = j
    · simp [e]
    · have : ¬ j = fresh := fun e' => e e'.symm
      simp [e, this]
  have hown : ∀ c, owns (fun j => if j = fresh then none else β j) ((fresh, .arr esz []) :: h) c → owns β h c := by
    rintro c ⟨j, x, h1, h2⟩
    rw [hlk] at h1
    by_cases e : j = fresh
    · simp only [if_pos e] at h2; cases h2
    · simp only [if_neg e] at h1 h2
      exact ⟨j, x, h1, h2⟩
  have hstep : Step p (cx ext β h w) (cx ext (fun j => if j = fresh then none else β j) ((fresh, .arr esz []) :: h) w) := by
    refine ⟨fun k off v hk hc => ⟨fun hk' => hk (hk'.imp (fun e => e) fun h1 => hown k h1), hc⟩, fun _ _ h => h, fun j hj esz1 rows hr => ?_, fun j hj es hr => ?_⟩
    · have e : j ≠ fresh := fun e => hpf (e ▸ hj)
      have hr' : lk ((fresh, .arr esz []) :: h) j = some (.arr esz1 rows) := hr
      rw [hlk, if_neg e] at hr'
      exact ⟨rows, hr', Nat.le_refl _, fun _ => by simp [cx, e]⟩
    · have e : j ≠ fresh := fun e => hpf (e ▸ hj)
      have hr' : lk ((fresh, .arr esz []) :: h) j = some (.mp es) := hr
      rw [hlk, if_neg e] at hr'
      exact ⟨es, hr', by simp [cx, e]⟩
  refine ⟨⟨fun j x hj => ?_, fun j x hj => ?_, fun j j' x x' c hj hj' hc hc' => ?_, fun c hc => ⟨(hin.ext c hc).1, fun h1 => (hin.ext c hc).2 (hown c h1)⟩⟩,
    ⟨Nat.le_refl _, fun _ _ _ => rfl, fun k _ h1 => hown k h1, fun _ _ h => h, rfl, rfl, rfl⟩, hstep⟩
  · rw [hlk] at hj
    by_cases e : j = fresh
    · rw [if_pos e] at hj
      injection hj with hj
      subst hj
      refine ⟨fun r hr => by simp at hr, ?_⟩
      have : (cx ext (fun j => if j = fresh then none else β j) ((fresh, .arr esz []) :: h) w).β j = none := by simp [cx, e]
      rw [this]
    · rw [if_neg e] at hj
      exact ObIn.step hstep (by simp [cx, e]) (fun c hc => rfl) (hin.nm j x hj).2 (hin.ob j x hj)
  · rw [hlk] at hj
    by_cases e : j = fresh
    · rw [if_pos e] at hj
      injection hj with hj
      subst hj
      exact ⟨.inr e, fun r hr => by simp at hr⟩
    · rw [if_neg e] at hj
      exact ⟨.inl (hin.nm j x hj).1, Ob.nm_mono (fun _ => .inl) (hin.nm j x hj).2⟩
  · rw [hlk] at hj hj'
    by_cases e : j = fresh
    · simp only [if_pos e] at hc; cases hc
    · by_cases e' : j' = fresh
      · simp only [if_pos e'] at hc'; cases hc'
      · simp only [if_neg e] at hj hc
        simp only [if_neg e'] at hj' hc'
        exact hin.inj j j' x x' c hj hj' hc hc'

/-- Rows are written behind those of a slice. -/
theorem out_room (hin : HIn ext β p h w) {s : Sem Next} {id base len cap esz n : Nat} {ex' : Bool} {c1 : Nat} {rows new : List (List AVal)} {news : List Value} {b : Nat}
    (hl : lk h id = some (.arr esz rows)) (hb : β id = some b) {e : TypeId} {m : Nat} (hsh : w.shape? b = some (e, m)) (hm : (base + cap) * esz ≤ m) (hq : base + len ≤ rows.length) (hcap : len + n ≤ cap) (hn : new.length = n)
    (hrow : ∀ r, r ∈ new → r.length = esz) (hnew : RowVals (cx ext β h w) esz new news) (hnm : ∀ r, r ∈ new → ∀ y, y ∈ r → Nm p y) (hid : p id) (hlo : c1 ≤ cap) (hex : ex' = true → cap = c1)
    (hr : ∀ cur, w.heap[b]? = some (.cells cur e (0, 0)) → base * esz + (len + n) * esz ≤ cur.size →
      s.run P w = .ok (.value (.slice (some ⟨b, base * esz, none⟩) (len + n) cap)) (w.setRow b (cur.toList.take (base * esz + len * esz) ++ news ++ cur.toList.drop (base * esz + len * esz + news.length)).toArray)) :
    Out P ext β p h w fresh s (.ref id (max rows.length (base + len + n)) base (len + n) ex' c1) (hset h id (.arr esz (rows.take (base + len) ++ new ++ rows.drop (base + len + n)))) := by
  obtain ⟨hrows, h4⟩ := hin.ob id _ hl
  have hb0 : (cx ext β h w).β id = some b := hb
  rw [hb0] at h4
  obtain ⟨cur, e', h5, h6, h7⟩ := h4
  have h5' : w.heap[b]? = some (.cells cur e' (0, 0)) := h5
  have hsh' : w.shape? b = some (e', cur.size) := by simp [World.shape?, h5']
  rw [hsh'] at hsh
  injection hsh with hsh
  injection hsh with q1 q2
  subst q1 q2
  have hnl : news.length = n * esz := by rw [hnew.len, hn]
  have hle : base * esz + (len + n) * esz ≤ cur.size := by
    rw [← Nat.add_mul]
    exact Nat.le_trans (Nat.mul_le_mul_right _ (by omega)) hm
  have hrun := hr cur h5' hle
  let rows' := rows.take (base + len) ++ new ++ rows.drop (base + len + n)
  let nw : Array Value := (cur.toList.take (base * esz + len * esz) ++ news ++ cur.toList.drop (base * esz + len * esz + news.length)).toArray
  have hoq : base * esz + len * esz = (base + len) * esz := by rw [Nat.add_mul]
  have hobd : (base + len) * esz + news.length ≤ cur.size := by rw [hnl, ← Nat.add_mul]; rw [← Nat.add_mul] at hle; rw [Nat.add_assoc]; exact hle
  have hsize : nw.size = cur.size := by simp [nw, hoq]; omega
  have hget : ∀ k, nw[k]? = if (base + len) * esz ≤ k ∧ k < (base + len) * esz + news.length then news[k - (base + len) * esz]? else cur[k]? := fun k => by
    show ((cur.toList.take (base * esz + len * esz) ++ news ++ cur.toList.drop (base * esz + len * esz + news.length)).toArray)[k]? = _
    rw [List.getElem?_toArray, hoq, get_splice cur.toList _ news (by simpa using hobd)]
    simp
  have hrl : rows'.length = max rows.length (base + len + n) := by simp [rows', hn]; omega
  have hrget : ∀ i : Nat, rows'[i]? = if base + len ≤ i ∧ i < base + len + n then new[i - (base + len)]? else rows[i]? := fun i => by
    show (rows.take (base + len) ++ new ++ rows.drop (base + len + n))[i]? = _
    have hto : (rows.take (base + len)).length = base + len := by simp; omega
    rw [List.append_assoc]
    by_cases h1 : i < base + len
    · rw [List.getElem?_append_left (by omega), if_neg (by omega), List.getElem?_take, if_pos h1]
    · rw [List.getElem?_append_right (by omega), hto]
      by_cases h2 : i < base + len + n
      · rw [List.getElem?_append_left (by omega), if_pos ⟨by omega, h2⟩]
      · rw [List.getElem?_append_right (by omega), if_neg (by omega), List.getElem?_drop]
        congr 1
        omega
  have hrow' : ∀ r, r ∈ rows' → r.length = esz := fun r hr => by
    simp only [rows', List.mem_append] at hr
    rcases hr with (hr | hr) | hr
    · exact hrows r (List.mem_of_mem_take hr)
    · exact hrow r hr
    · exact hrows r (List.mem_of_mem_drop hr)
  have hnm' : ∀ r, r ∈ rows' → ∀ y, y ∈ r → Nm p y := fun r hr => by
    simp only [rows', List.mem_append] at hr
    rcases hr with (hr | hr) | hr
    · exact (hin.nm id _ hl).2 r (List.mem_of_mem_take hr)
    · exact hnm r hr
    · exact (hin.nm id _ hl).2 r (List.mem_of_mem_drop hr)
  have key := HIn.upd (w' := w.setRow b nw) (o' := .arr esz rows') hin hl hb (fun k hk => setRow_other w b k nw hk) ⟨setRow_size w b nw, rfl, rfl, rfl⟩ (shape_setRow h5' hsize) ⟨rfl, by rw [hrl]; omega⟩ hnm'
    (fun st => by
      refine ⟨hrow', ?_⟩
      have : (cx ext β (hset h id (.arr esz rows')) (w.setRow b nw)).β id = some b := hb
      rw [this]
      refine ⟨nw, e', setRow_heap w b cur nw e' (0, 0) h5', ?_, fun i r j y hi hj => ?_⟩
      · rw [hsize, hrl]
        rcases Nat.le_total rows.length (base + len + n) with h8 | h8
        · rw [Nat.max_eq_right h8, Nat.add_mul]; rw [hnl] at hobd; exact hobd
        · rw [Nat.max_eq_left h8]; exact h6
      · have hjl : j < esz := by rw [← hrow' r (List.mem_of_getElem? hi)]; exact (List.getElem?_eq_some_iff.1 hj).1
        rw [hrget] at hi
        rw [hget]
        by_cases hc : base + len ≤ i ∧ i < base + len + n
        · rw [if_pos hc] at hi
          have e1 : (base + len) * esz + (i - (base + len)) * esz = i * esz := by rw [← Nat.add_mul]; congr 1; omega
          have e2 : (i - (base + len) + 1) * esz ≤ n * esz := Nat.mul_le_mul_right _ (by omega)
          rw [Nat.add_mul, Nat.one_mul] at e2
          rw [if_pos (by rw [hnl]; omega)]
          have e3 : i * esz + j - (base + len) * esz = (i - (base + len)) * esz + j := by omega
          rw [e3]
          have hlt : (i - (base + len)) * esz + j < news.length := by rw [hnl]; omega
          exact ⟨news[(i - (base + len)) * esz + j], List.getElem?_eq_getElem hlt, hnew.one _ (List.getElem_mem hlt),
            (hnew.rel _ r j y _ hi hj (List.getElem?_eq_getElem hlt)).step (st p) (hnm r (List.mem_of_getElem? hi) y (List.mem_of_getElem? hj))⟩
        · rw [if_neg hc] at hi
          obtain ⟨u, h11, h12, h13⟩ := h7 i r j y hi hj
          rw [if_neg]
          · exact ⟨u, h11, h12, h13.step (st p) ((hin.nm id _ hl).2 r (List.mem_of_getElem? hi) y (List.mem_of_getElem? hj))⟩
          · rw [hnl, ← Nat.add_mul]
            rcases Nat.lt_or_ge i (base + len) with h14 | h14
            · have : (i + 1) * esz ≤ (base + len) * esz := Nat.mul_le_mul_right esz h14
              rw [Nat.add_mul, Nat.one_mul] at this
              omega
            · have : (base + len + n) * esz ≤ i * esz := Nat.mul_le_mul_right esz (by omega)
              omega)
  obtain ⟨k1, k2, k3⟩ := key
  refine ⟨_, _, w.setRow b nw, β, hrun, .inl rfl, k1.mono fun _ => .inl, .ref _ _ _ _ _ _ _ _ hcap hlo hex fun esz1 rows1 hl1 => ?_, .ref _ _ _ _ _ _ (.inl hid), k2, k3 p⟩
  have hl1' : lk (hset h id (.arr esz rows')) id = some (.arr esz1 rows1) := hl1
  rw [lk_hset _ hl, if_pos rfl] at hl1'
  injection hl1' with hl1'
  injection hl1' with q1 q2
  subst q1 q2
  refine ⟨by rw [hrl]; exact Nat.le_refl _, fun _ => ⟨by omega, .inr ⟨b, hb, rfl, e', cur.size, ?_, hm⟩⟩⟩
  exact shape_setRow h5' hsize b _ hsh'

end
end Go.AM
