/-
  Arrays of structs, as an object's rows; what a swap makes of them.
-/
import Derived.Test.YtdgjelfeclgolaaAMG
import Derived.Sort.AssemblyPlain
namespace Go.AM
open Go
set_option linter.unusedVariables false
section
variable {α : Type} [Enc α] [Inhabited α]

theorem sget (d : Array α) {i : Nat} (h : i < d.size) : (rws d.toList)[i]? = some (Enc.enc d[i]!) := by
  refine rws_get ?_
  rw [Array.getElem?_toList, getElem!_pos d i h, Array.getElem?_eq_getElem h]

omit [Inhabited α] in
theorem sset (d : Array α) (i : Nat) (x : α) : (rws d.toList).set i (Enc.enc x) = rws (d.setIfInBounds i x).toList := by
  rw [rws_set, Array.toList_setIfInBounds]

theorem ssw (d : Array α) (i j : Nat) : (rws (d.setIfInBounds i d[j]!).toList).set j (Enc.enc d[i]!) = rws (Sort.swp d i j).toList := sset _ _ _

omit [Inhabited α] in
theorem srl (d : Array α) : (rws d.toList).length = d.size := by rw [rws_length]; rfl
omit [Inhabited α] in
theorem ssz (d : Array α) (i : Nat) (x : α) : (rws (d.setIfInBounds i x).toList).length = d.size := by rw [srl]; simp

omit [Enc α] in
theorem size_sift (lt : α → α → Bool) (hi f r : Nat) (d : Array α) : (Sort.siftDown lt hi f r d).size = d.size := by
  fun_induction Sort.siftDown lt hi f r d <;> simp_all [Sort.size_swp]

omit [Enc α] in
theorem size_rev (i j : Nat) (d : Array α) : (Sort.reverseLoop i j d).size = d.size := by
  fun_induction Sort.reverseLoop i j d <;> simp_all [Sort.size_swp]
omit [Inhabited α] in
/-- A function over one array, wherever it lies. -/
theorem FCall.arr {P : Program} {g : FuncId} {args0 args : List AVal} {r0 r : AVal} {sz : Nat} {l l' : List α} (hc : HCall P g args0 [(0, .arr sz (rws l))] 1 fun r h _ => r = r0 ∧ h = [(0, .arr sz (rws l'))]) (a : Nat)
    (ha : ∀ x, x ∈ args0 → LfA (fun i => i ∈ [0]) x) (hr : LfA (fun i => i ∈ [0]) r0) (ea : args0.map (renA fun _ => a) = args) (er : renA (fun _ => a) r0 = r) : FCall P g args [(a, .arr sz (rws l))] r [(a, .arr sz (rws l'))] := by
  refine FCall.of (f := fun _ => a) hc rfl (by simp) (fun e he => ?_) (fun i j hi hj _ => ?_) (fun e he => ?_) (fun e he => ?_) hr ha ea ?_ ?_ er
  · simp only [List.mem_cons, List.not_mem_nil, or_false] at he
    subst he; simp
  · simp only [List.map_cons, List.map_nil, List.mem_cons, List.not_mem_nil, or_false] at hi hj
    omega
  · simp only [List.mem_cons, List.not_mem_nil, or_false] at he
    subst he; simp [lfO_rws]
  · simp only [List.mem_cons, List.not_mem_nil, or_false] at he
    subst he; simp [lfO_rws]
  · simp only [renH, renO, ren_rws]
  · simp only [renH, renO, ren_rws]
omit [Inhabited α] in
/-- A function over one array and a counter. -/
theorem FCall.arr2 {P : Program} {g : FuncId} {args0 args : List AVal} {r0 r : AVal} {sz : Nat} {n n' : Int} {l l' : List α} (hc : HCall P g args0 [(1, .arr 1 [[.int .i64 n]]), (0, .arr sz (rws l))] 2 fun r h _ => r = r0 ∧ h = [(1, .arr 1 [[.int .i64 n']]), (0, .arr sz (rws l'))]) (a s : Nat) (hd : a ≠ s)
    (ha : ∀ x, x ∈ args0 → LfA (fun i => i ∈ [1, 0]) x) (hr : LfA (fun i => i ∈ [1, 0]) r0) (ea : args0.map (renA fun i => if i = 0 then a else s) = args) (er : renA (fun i => if i = 0 then a else s) r0 = r) : FCall P g args [(s, .arr 1 [[.int .i64 n]]), (a, .arr sz (rws l))] r [(s, .arr 1 [[.int .i64 n']]), (a, .arr sz (rws l'))] := by
  refine FCall.of (f := fun i => if i = 0 then a else s) hc rfl (by simp) (fun e he => ?_) (fun i j hi hj e => ?_) (fun e he => ?_) (fun e he => ?_) hr ha ea ?_ ?_ er
  · simp only [List.mem_cons, List.not_mem_nil, or_false] at he
    rcases he with rfl | rfl <;> simp
  · simp only [List.map_cons, List.map_nil, List.mem_cons, List.not_mem_nil, or_false] at hi hj
    rcases hi with rfl | rfl <;> rcases hj with rfl | rfl <;> simp at e <;> first | rfl | omega
  · simp only [List.mem_cons, List.not_mem_nil, or_false] at he
    rcases he with rfl | rfl
    · simp [lfO_row, lf_int]
    · simp [lfO_rws]
  · simp only [List.mem_cons, List.not_mem_nil, or_false] at he
    rcases he with rfl | rfl
    · simp [lfO_row, lf_int]
    · simp [lfO_rws]
  · simp only [renH, renO, ren_rws, ren0, List.map_cons, List.map_nil]; rfl
  · simp only [renH, renO, ren_rws, ren0, List.map_cons, List.map_nil]; rfl
theorem lf_fn (S : Nat → Prop) (fn : Fn) : Lf S (.func fn [] []) ↔ True := ⟨fun _ => trivial, fun _ => .fz _ (.func _ _ _ (by simp) (by simp))⟩
end

section
variable {P : Program} {n0 : Nat} {Q : Exit → St → Prop} {k : List It}
/-- Several ways join behind the next item; the heap may have changed. -/
theorem W_cutH {γ : Type} {c : Code} {f : It} {tm : List AVal} {hp : Heap} {nx : Nat} (mask : γ → List (Option AVal)) (H : γ → Heap) (J : γ → Prop)
    (h : AWP P n0 c (unw P n0 [f] fun e s => e = .normal ∧ ∃ g, J g ∧ Weak n0 s ⟨msk (mask g) tm, H g, nx⟩) ⟨tm, hp, nx⟩)
    (after : ∀ g, J g → unw P n0 k Q .normal ⟨msk (mask g) tm, H g, nx⟩) : AWP P n0 c (unw P n0 (f :: k) Q) ⟨tm, hp, nx⟩ := by
  have h1 : unw P n0 (f :: k) Q = unw P n0 [f] (unw P n0 k Q) := by cases f <;> rfl
  rw [h1]
  intro ext β a w i
  refine wp_mono (h ext β a w i) ?_
  rintro e a2 w2 ⟨β2, s2, q, i2, g2⟩
  have weaken : ∀ s2, (∃ g, J g ∧ Weak n0 s2 ⟨msk (mask g) tm, H g, nx⟩) → ∀ ext β a w, SIn n0 ext β s2 a w → ∃ β3 s3, unw P n0 k Q .normal s3 ∧ SIn n0 ext β3 s3 a w ∧ Goes n0 ext β s2.h w β3 s3.h w := by
    rintro s2 ⟨g, hg, hw⟩ ext β a w i
    obtain ⟨i3, g3⟩ := i.weak hw
    exact ⟨β, _, after g hg, i3, g3⟩
  have code : ∀ (y : Code) s2, AWP P n0 y (fun e s => e = .normal ∧ ∃ g, J g ∧ Weak n0 s ⟨msk (mask g) tm, H g, nx⟩) s2 → AWP P n0 y (unw P n0 k Q) s2 := by
    intro y s2 hy ext β a w i
    refine wp_mono (hy ext β a w i) ?_
    rintro e a2 w2 ⟨β2, s2, ⟨rfl, hg⟩, i2, g2⟩
    obtain ⟨β3, s3, h3, i3, g3⟩ := weaken s2 hg _ _ _ _ i2
    exact ⟨β3, s3, h3, i3, g2.trans g3⟩
  cases f with
  | code y =>
    cases e with
    | normal => exact ⟨β2, s2, code y s2 q, i2, g2⟩
    | exit j => exact absurd q.1 (by simp)
    | goto l => exact absurd q.1 (by simp)
    | ret => exact absurd q.1 (by simp)
    | _ => exact absurd q.1 (by simp)
  | blk id =>
    cases e with
    | normal =>
      obtain ⟨β3, s3, h3, i3, g3⟩ := weaken s2 q.2 _ _ _ _ i2
      exact ⟨β3, s3, h3, i3, g2.trans g3⟩
    | exit j =>
      by_cases hj : j = id
      · simp only [unw, blockQ, if_pos hj] at q
        obtain ⟨β3, s3, h3, i3, g3⟩ := weaken s2 q.2 _ _ _ _ i2
        exact ⟨β3, s3, by simp only [unw, blockQ, if_pos hj]; exact h3, i3, g2.trans g3⟩
      · simp only [unw, blockQ, if_neg hj] at q
        exact absurd q.1 (by simp)
    | goto l => exact absurd q.1 (by simp)
    | ret => exact absurd q.1 (by simp)
    | _ => exact absurd q.1 (by simp)
end
end Go.AM
