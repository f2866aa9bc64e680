/-
  AM, part 40: side conditions that find their own proofs; arithmetic that decides itself; loops over a tuple of variables; lists that begin as nil; typed rows.
-/
import Derived.Test.YtfbmbjfcgoahfaaAM37
set_option linter.unusedVariables false
set_option linter.unusedSimpArgs false
namespace Go.AM
open Go

/-! ### Arithmetic -/

theorem wrap_i {x : Int} (h0 : -9223372036854775808 ≤ x) (h1 : x ≤ 9223372036854775807) : IntKind.i64.wrap x = x := by rw [IntKind.wrap_i64]; omega
theorem wrap_u {x : Int} (h0 : 0 ≤ x) (h1 : x ≤ 18446744073709551615) : IntKind.u64.wrap x = x := by rw [IntKind.wrap_u64]; omega
theorem dec_t {c : Prop} [Decidable c] (h : c) : decide c = true := decide_eq_true h
theorem dec_f {c : Prop} [Decidable c] (h : ¬ c) : decide c = false := decide_eq_false h
theorem ite_t {α : Type} {c : Prop} [Decidable c] {a b : α} (h : c) : (if c then a else b) = a := if_pos h
theorem ite_f {α : Type} {c : Prop} [Decidable c] {a b : α} (h : ¬ c) : (if c then a else b) = b := if_neg h
theorem ibeq_t {a b : Int} (h : a = b) : (a == b) = true := by simp [h]
theorem ibeq_f {a b : Int} (h : ¬ a = b) : (a == b) = false := by simp [h]
theorem ibne_t {a b : Int} (h : ¬ a = b) : (a != b) = true := by simp [h]
theorem ibne_f {a b : Int} (h : a = b) : (a != b) = false := by simp [h]
theorem ibeq_iff {a b : Int} : ((a == b) = true) = (a = b) := by simp
theorem ibeq_niff {a b : Int} : ((a == b) = false) = (¬ a = b) := by simp
theorem ibne_iff {a b : Int} : ((a != b) = true) = (¬ a = b) := by simp
theorem ibne_niff {a b : Int} : ((a != b) = false) = (a = b) := by simp
theorem max_l {a b : Nat} (h : b ≤ a) : max a b = a := Nat.max_eq_left h
theorem max_r {a b : Nat} (h : a ≤ b) : max a b = b := Nat.max_eq_right h
theorem min_l {a b : Nat} (h : a ≤ b) : min a b = a := Nat.min_eq_left h
theorem min_r {a b : Nat} (h : b ≤ a) : min a b = b := Nat.min_eq_right h

theorem ba_beq (x y : ByteArray) : (x.toList == y.toList) = decide (x = y) := by
  by_cases h : x = y
  · subst h
    simp
  · have : ¬ x.toList = y.toList := fun e => h (by
      rw [ByteArray.toList_eq, ByteArray.toList_eq] at e
      exact ByteArray.ext (Array.ext' e))
    rw [beq_eq_false_iff_ne.2 this, decide_eq_false h]

/-! ### Structs that are held against each other, field by field -/

theorem aequal_struct {P : Program} {t : TypeId} {fs : List Fld} {n m : Nat} {z : AVal} {xs ys : List AVal} {r : Bool} (ht : tab P t = some ⟨.struct fs, n, m, z⟩) (hg : P.eqGuardType P.depth t = false) (hs : P.stoodInHeld t = false)
    (h : ∀ d, aeqs (aeq P (d + 1)) fs xs ys = some r) : aequal P t (.agg xs) (.agg ys) = some r := by
  have e : ∀ d, aeq P (d + 1) t (.agg xs) (.agg ys) = aeqs (aeq P d) fs xs ys := fun d => by
    simp only [aeq, ht, hs, Bool.false_eq_true, if_false]
  have e2 : aequal P t (.agg xs) (.agg ys) = if P.eqGuardType P.depth t then none else aeq P 10000 t (.agg xs) (.agg ys) := rfl
  rw [e2, hg, if_neg Bool.false_ne_true]
  exact (e 9999).trans (h 9998)

theorem aeqs_nil {F : TypeId → AVal → AVal → Option Bool} {xs ys : List AVal} : aeqs F [] xs ys = some true := rfl

theorem aeqs_cons {F : TypeId → AVal → AVal → Option Bool} {off ft : Nat} {fs : List Fld} {xs ys : List AVal} {u v : AVal} {q r : Bool} (hx : xs[off]? = some u) (hy : ys[off]? = some v) (hF : F ft u v = some q) (h : aeqs F fs xs ys = some r) :
    aeqs F (⟨off, 1, false, ft, false⟩ :: fs) xs ys = some (q && r) := by
  simp only [aeqs, apart, hx, hy, hF, h, Bool.false_eq_true, if_false]

theorem aeqs_int {P : Program} {d : Nat} {off ft : Nat} {fs : List Fld} {xs ys : List AVal} {k k0 : IntKind} {a b : Int} {n m : Nat} {z : AVal} {r : Bool} (ht : tab P ft = some ⟨.int k0, n, m, z⟩) (hx : xs[off]? = some (.int k a)) (hy : ys[off]? = some (.int k b))
    (h : aeqs (aeq P (d + 1)) fs xs ys = some r) : aeqs (aeq P (d + 1)) (⟨off, 1, false, ft, false⟩ :: fs) xs ys = some (decide (a = b) && r) := by
  refine aeqs_cons hx hy ?_ h
  have e : (a == b) = decide (a = b) := by by_cases h : a = b <;> simp [h]
  simp only [aeq, ht, if_true, e]

theorem aeqs_str {P : Program} {d : Nat} {off ft : Nat} {fs : List Fld} {xs ys : List AVal} {a b : ByteArray} {n m : Nat} {z : AVal} {r : Bool} (ht : tab P ft = some ⟨.str, n, m, z⟩) (hx : xs[off]? = some (.str a)) (hy : ys[off]? = some (.str b))
    (h : aeqs (aeq P (d + 1)) fs xs ys = some r) : aeqs (aeq P (d + 1)) (⟨off, 1, false, ft, false⟩ :: fs) xs ys = some (decide (a = b) && r) := by
  refine aeqs_cons hx hy ?_ h
  simp only [aeq, ht, ba_beq]

theorem aeqs_bool {P : Program} {d : Nat} {off ft : Nat} {fs : List Fld} {xs ys : List AVal} {a b : Bool} {n m : Nat} {z : AVal} {r : Bool} (ht : tab P ft = some ⟨.bool, n, m, z⟩) (hx : xs[off]? = some (.bool a)) (hy : ys[off]? = some (.bool b))
    (h : aeqs (aeq P (d + 1)) fs xs ys = some r) : aeqs (aeq P (d + 1)) (⟨off, 1, false, ft, false⟩ :: fs) xs ys = some (decide (a = b) && r) := by
  refine aeqs_cons hx hy ?_ h
  have e : (a == b) = decide (a = b) := by cases a <;> cases b <;> rfl
  simp only [aeq, ht, e]

/-! ### Side conditions -/

section
variable {fl : Bool} {P : Program} {n0 : Nat} {all : Array Oper} {K : St → Prop}

theorem gT {tm : List AVal} {o : Oper} {b : Option Bool} (h : guardA all tm o = b := by first | exact guardA_none rfl | exact guardA_yes rfl rfl rfl (by with_reducible rfl)) : guardA all tm o = b := h
theorem gF {tm : List AVal} {o : Oper} {b : Option Bool} (h : guardA all tm o = b := by first | exact guardA_gone rfl rfl rfl | exact guardA_noT rfl rfl rfl (by with_reducible rfl) | exact guardA_noF rfl rfl rfl (by with_reducible rfl)) : guardA all tm o = b := h
theorem pT {tm tm' : List AVal} {d : Option Tmp} {y : AVal} (h : putT tm d y = tm' := by (dsimp only [putT, List.set_cons_succ, List.set_cons_zero] <;> exact rfl)) : putT tm d y = tm' := h
theorem sT {tm tm' : List AVal} {d : Nat} {y : AVal} (h : tm.set d y = tm' := by (dsimp only [List.set_cons_succ, List.set_cons_zero] <;> exact rfl)) : tm.set d y = tm' := h
theorem nT {a b c : Nat} (h : a + b = c := by first | (simp only [Nat.reduceAdd]; exact rfl) | exact rfl) : a + b = c := h
theorem tT {tm : List AVal} {o : Oper} {nx : Nat} (h : ∀ j, j ∈ touched tm o → j < nx := by first | exact touched_nil rfl | exact touched_one rfl (by omega)) : ∀ j, j ∈ touched tm o → j < nx := h
theorem iT {n n0 M m : Nat} {Pr : List Nat} {tc : List (Bool × List Nat)} (h : indepB n n0 Pr tc = true) : indepB n n0 Pr tc = true := h

end

/-! ### Loops over a tuple of variables -/

/-- Some slots are laid anew. -/
def msk : List (Option AVal) → List AVal → List AVal
  | none :: ms, x :: xs => x :: msk ms xs
  | some y :: ms, _ :: xs => y :: msk ms xs
  | _, xs => xs

theorem msk_none (ms : List (Option AVal)) (x : AVal) (xs : List AVal) : msk (none :: ms) (x :: xs) = x :: msk ms xs := rfl
theorem msk_some (y : AVal) (ms : List (Option AVal)) (x : AVal) (xs : List AVal) : msk (some y :: ms) (x :: xs) = y :: msk ms xs := rfl
theorem msk_nil (xs : List AVal) : msk [] xs = xs := by cases xs <;> rfl

section
variable {fl : Bool} {P : Program} {n0 : Nat} {Q : Exit → St → Prop} {k : List It}

/-- A loop with some variables, a bound on its rounds, and what holds of the variables at each round's beginning; 'F' is the state. -/
theorem W_fold {α : Type} {c : Code} {s : St} (I : α → Prop) (M : α → Nat) (F : α → St) (a0 : α) (h0 : I a0) (hd : Weak n0 s (F a0))
    (round : ∀ a, I a → AWP P n0 c (unw P n0 [] (thenQ (fun s' => ∃ a', M a' < M a ∧ I a' ∧ Weak n0 s' (F a')) (unw P n0 k Q))) (F a)) : AWP P n0 (.loop c) (unw P n0 k Q) s := by
  refine W_loop (fun m s => ∃ a, I a ∧ m = M a ∧ s = F a) (M a0) (F a0) ⟨a0, h0, rfl, rfl⟩ hd ?_
  rintro m s1 ⟨a, hI, rfl, rfl⟩
  intro ext β a1 w i
  refine wp_mono (round a hI ext β a1 w i) ?_
  rintro e a2 w2 ⟨β2, s2, q, i2, g2⟩
  cases e with
  | normal =>
    obtain ⟨a', h1, h2, h3⟩ := q
    exact ⟨β2, s2, ⟨M a', h1, F a', ⟨a', h2, rfl, rfl⟩, h3⟩, i2, g2⟩
  | exit j => exact ⟨β2, s2, q, i2, g2⟩
  | goto l => exact ⟨β2, s2, q, i2, g2⟩
  | ret => exact ⟨β2, s2, q, i2, g2⟩
  | panic ch => exact ⟨β2, s2, q, i2, g2⟩
  | outgrown => exact ⟨β2, s2, q, i2, g2⟩

/-- As W_fold, with the state laid over the one at hand. -/
theorem W_foldM {α : Type} {c : Code} {tm : List AVal} {hp : Heap} {nx : Nat} (mask : α → List (Option AVal)) (H : α → Heap) (I : α → Prop) (M : α → Nat) (a0 : α) (h0 : I a0) (hd : Weak n0 ⟨tm, hp, nx⟩ ⟨msk (mask a0) tm, H a0, nx⟩)
    (round : ∀ a, I a → AWP P n0 c (unw P n0 [] (thenQ (fun s' => ∃ a', M a' < M a ∧ I a' ∧ Weak n0 s' ⟨msk (mask a') tm, H a', nx⟩) (unw P n0 k Q))) ⟨msk (mask a) tm, H a, nx⟩) : AWP P n0 (.loop c) (unw P n0 k Q) ⟨tm, hp, nx⟩ :=
  W_fold I M (fun a => ⟨msk (mask a) tm, H a, nx⟩) a0 h0 hd round

/-- As W_foldM; the heap stays. -/
theorem W_foldK {α : Type} {c : Code} {tm : List AVal} {hp : Heap} {nx : Nat} (mask : α → List (Option AVal)) (I : α → Prop) (M : α → Nat) (a0 : α) (h0 : I a0) (hd : Weak n0 ⟨tm, hp, nx⟩ ⟨msk (mask a0) tm, hp, nx⟩)
    (round : ∀ a, I a → AWP P n0 c (unw P n0 [] (thenQ (fun s' => ∃ a', M a' < M a ∧ I a' ∧ Weak n0 s' ⟨msk (mask a') tm, hp, nx⟩) (unw P n0 k Q))) ⟨msk (mask a) tm, hp, nx⟩) : AWP P n0 (.loop c) (unw P n0 k Q) ⟨tm, hp, nx⟩ :=
  W_fold I M (fun a => ⟨msk (mask a) tm, hp, nx⟩) a0 h0 hd round

/-- As W_foldM, with one way on behind the loop: 'J'. -/
theorem W_foldJ {α γ : Type} {c : Code} {tm : List AVal} {hp : Heap} {nx : Nat} {id : Nat} (mask : α → List (Option AVal)) (H : α → Heap) (I : α → Prop) (M : α → Nat) (maskJ : γ → List (Option AVal)) (HJ : γ → Heap) (J : γ → Prop) (a0 : α) (h0 : I a0) (hd : Weak n0 ⟨tm, hp, nx⟩ ⟨msk (mask a0) tm, H a0, nx⟩)
    (after : ∀ g, J g → unw P n0 k Q .normal ⟨msk (maskJ g) tm, HJ g, nx⟩)
    (round : ∀ a, I a → AWP P n0 c (unw P n0 [] (thenQ (fun s' => ∃ a', M a' < M a ∧ I a' ∧ Weak n0 s' ⟨msk (mask a') tm, H a', nx⟩) (forW n0 id (fun s => ∃ g, J g ∧ s = ⟨msk (maskJ g) tm, HJ g, nx⟩) (unw P n0 k Q)))) ⟨msk (mask a) tm, H a, nx⟩) :
    AWP P n0 (.loop c) (unw P n0 (.blk id :: k) Q) ⟨tm, hp, nx⟩ := by
  refine W_forW (fun m s => ∃ a, I a ∧ m = M a ∧ s = ⟨msk (mask a) tm, H a, nx⟩) (fun s => ∃ g, J g ∧ s = ⟨msk (maskJ g) tm, HJ g, nx⟩) (M a0) ⟨msk (mask a0) tm, H a0, nx⟩ ⟨a0, h0, rfl, rfl⟩ hd ?_ ?_
  · rintro s ⟨g, hg, rfl⟩
    exact after g hg
  · rintro m s1 ⟨a, hI, rfl, rfl⟩
    intro ext β a1 w i
    refine wp_mono (round a hI ext β a1 w i) ?_
    rintro e a2 w2 ⟨β2, s2, q, i2, g2⟩
    cases e with
    | normal =>
      obtain ⟨a', h1, h2, h3⟩ := q
      exact ⟨β2, s2, ⟨M a', h1, ⟨msk (mask a') tm, H a', nx⟩, ⟨a', h2, rfl, rfl⟩, h3⟩, i2, g2⟩
    | exit j => exact ⟨β2, s2, q, i2, g2⟩
    | goto l => exact ⟨β2, s2, q, i2, g2⟩
    | ret => exact ⟨β2, s2, q, i2, g2⟩
    | panic ch => exact ⟨β2, s2, q, i2, g2⟩
    | outgrown => exact ⟨β2, s2, q, i2, g2⟩

theorem FJ_exit {γ : Type} {F : St → Prop} {id : Nat} {G : γ → St} {J : γ → Prop} {R : Exit → St → Prop} {s : St} (g : γ) (h : J g) (hw : Weak n0 s (G g)) : unw P n0 [] (thenQ F (forW n0 id (fun s => ∃ g, J g ∧ s = G g) R)) (.exit id) s :=
  FW_exit ⟨_, ⟨g, h, rfl⟩, hw⟩

/-! ### Lists that begin as nil -/

/-- Each slot stays, or is given up, or a list of nothing at all becomes one of an object that is not there yet. -/
def NewL (j : Nat) : List AVal → List AVal → Prop
  | [], [] => True
  | x :: xs, y :: ys => (y = x ∨ y = .junk ∨ (x = .sl [] (some 0) ∧ y = .ref j 0 0 0 false 0)) ∧ NewL j xs ys
  | _, _ => False

theorem NewL.get {j : Nat} : ∀ {xs ys : List AVal}, NewL j xs ys → ys.length = xs.length ∧ ∀ (k : Nat) x y, xs[k]? = some x → ys[k]? = some y → y = x ∨ y = .junk ∨ (x = .sl [] (some 0) ∧ y = .ref j 0 0 0 false 0)
  | [], [], _ => ⟨rfl, fun k x y hx => by simp at hx⟩
  | x :: xs, y :: ys, f => by
    obtain ⟨h1, h2⟩ := NewL.get f.2
    refine ⟨by simp [h1], fun k a b ha hb => ?_⟩
    cases k with
    | zero => simp at ha hb; subst ha; subst hb; exact f.1
    | succ k => exact h2 k a b (by simpa using ha) (by simpa using hb)
  | [], _ :: _, f => f.elim
  | _ :: _, [], f => f.elim

theorem NewL.nil {j : Nat} : NewL j [] [] := trivial
theorem NewL.keep {j : Nat} {x : AVal} {xs ys : List AVal} (f : NewL j xs ys) : NewL j (x :: xs) (x :: ys) := ⟨.inl rfl, f⟩
theorem NewL.new {j : Nat} {xs ys : List AVal} (f : NewL j xs ys) : NewL j (.sl [] (some 0) :: xs) (.ref j 0 0 0 false 0 :: ys) := ⟨.inr (.inr ⟨rfl, rfl⟩), f⟩

theorem W_unborn {c : Code} {tm tm' : List AVal} {hp : Heap} {nx : Nat} (esz : Nat) (hf : NewL nx tm tm') (h : AWP P n0 c (unw P n0 k Q) ⟨tm', (nx, .arr esz []) :: hp, nx + 1⟩) : AWP P n0 c (unw P n0 k Q) ⟨tm, hp, nx⟩ := by
  intro ext β a w i
  obtain ⟨hl, hg⟩ := hf.get
  obtain ⟨h1, h2, h3⟩ := i.heap.unborn (fresh := nx) (fun h => Nat.lt_irrefl _ h) esz
  have hlow : n0 ≤ nx := by
    rcases Nat.lt_or_ge nx n0 with h8 | h8
    · exact absurd (i.low nx h8) (Nat.lt_irrefl _)
    · exact h8
  have hq : ∀ j, (Lt nx j ∨ j = nx) → Lt (nx + 1) j := fun j hj => by simp only [Lt] at *; omega
  have i2 : SIn n0 ext (fun j => if j = nx then none else β j) ⟨tm', (nx, .arr esz []) :: hp, nx + 1⟩ a w := by
    refine ⟨HIn.mono hq h1, by rw [i.size]; exact hl.symm, fun k y v hy hv => ?_, fun y hy => ?_, i.defers, fun j hj => hq j (.inl (i.low j hj))⟩
    · have hk : k < tm.length := by rw [← hl]; exact (List.getElem?_eq_some_iff.1 hy).1
      rcases hg k tm[k] y (List.getElem?_eq_getElem hk) hy with rfl | rfl | ⟨e1, rfl⟩
      · exact (i.rel k _ v (List.getElem?_eq_getElem hk) hv).step h3 (i.nm _ (List.getElem_mem hk))
      · exact .junk v
      · have hv1 := i.rel k _ v (List.getElem?_eq_getElem hk) hv
        rw [e1] at hv1
        cases hv1 with | sl _ _ a1 cap esz1 blk off vals hcap hlim _ _ _ _ =>
        have hc := hlim 0 rfl
        subst hc
        refine .ref nx 0 0 0 false 0 a1 0 (Nat.le_refl _) (Nat.le_refl _) (fun h => by cases h) fun esz2 rows2 hr => ?_
        exact ⟨Nat.zero_le _, fun _ => ⟨Nat.le_refl _, .inl rfl⟩⟩
    · obtain ⟨k, hk⟩ := List.getElem?_of_mem hy
      have hk' : k < tm.length := by rw [← hl]; exact (List.getElem?_eq_some_iff.1 hk).1
      rcases hg k tm[k] y (List.getElem?_eq_getElem hk') hk with rfl | rfl | ⟨e1, rfl⟩
      · exact Nm.mono (fun j hj => hq j (.inl hj)) (i.nm _ (List.getElem_mem hk'))
      · exact .junk
      · exact .ref _ _ _ _ _ _ (Nat.lt_succ_self nx)
  have g : Goes n0 ext β hp w (fun j => if j = nx then none else β j) ((nx, .arr esz []) :: hp) w := ⟨h2, h3.weaken fun j hj => Nat.lt_of_lt_of_le hj hlow⟩
  exact wp_mono (h ext _ a w i2) fun _ _ _ p => p.after g

theorem NewL.all {j : Nat} : ∀ xs : List AVal, NewL j xs xs
  | [] => trivial
  | x :: xs => ⟨.inl rfl, NewL.all xs⟩

theorem NewL.at {j : Nat} : ∀ (xs : List AVal) (t : Nat), xs[t]? = some (.sl [] (some 0)) → NewL j xs (xs.set t (.ref j 0 0 0 false 0))
  | [], t, h => by simp at h
  | x :: xs, 0, h => by
    simp at h
    subst h
    exact ⟨.inr (.inr ⟨rfl, rfl⟩), NewL.all xs⟩
  | x :: xs, t + 1, h => ⟨.inl rfl, NewL.at xs t (by simpa using h)⟩

/-- The list in one slot is nothing at all: it becomes one of an object that is not there yet. -/
theorem W_unbornAt {c : Code} {tm tm' : List AVal} {hp : Heap} {nx nx' : Nat} (t esz : Nat) (ht : tm[t]? = some (.sl [] (some 0))) (e : tm.set t (.ref nx 0 0 0 false 0) = tm') (hn : nx + 1 = nx') (h : AWP P n0 c (unw P n0 k Q) ⟨tm', (nx, .arr esz []) :: hp, nx'⟩) : AWP P n0 c (unw P n0 k Q) ⟨tm, hp, nx⟩ := by
  subst e
  subst hn
  exact W_unborn esz (NewL.at tm t ht) h

/-- A loop that makes one object longer. -/
theorem W_foldA {α : Type} {c : Code} {tm : List AVal} {hp : Heap} {nx id esz : Nat} {xs : List (List AVal)} (mask : Nat → α → List (Option AVal)) (R : α → List (List AVal)) (I : α → Prop) (M : α → Nat) (a0 : α) (h0 : I a0)
    (hd : Weak n0 ⟨tm, (id, .arr esz xs) :: hp, nx⟩ ⟨msk (mask id a0) tm, (id, .arr esz (R a0)) :: hp, nx⟩)
    (round : ∀ a, I a → AWP P n0 c (unw P n0 [] (thenQ (fun s' => ∃ a', M a' < M a ∧ I a' ∧ Weak n0 s' ⟨msk (mask id a') tm, (id, .arr esz (R a')) :: hp, nx⟩) (unw P n0 k Q))) ⟨msk (mask id a) tm, (id, .arr esz (R a)) :: hp, nx⟩) : AWP P n0 (.loop c) (unw P n0 k Q) ⟨tm, (id, .arr esz xs) :: hp, nx⟩ :=
  W_fold I M (fun a => ⟨msk (mask id a) tm, (id, .arr esz (R a)) :: hp, nx⟩) a0 h0 hd round

/-! ### Slots whose values are known otherwise -/

/-- Slots are given up, or what they name stands as it is from now on, or the spare room of a slice is forgotten. -/
theorem FzL.forget {h h2 : Heap} {rows : List (List AVal)} {lim : Option Nat} {xs ys : List AVal} (hz : Fz (.sl rows none)) (f : FzL h h2 xs ys) : FzL h h2 (.sl rows lim :: xs) (.sl rows none :: ys) := by
  refine ⟨.inr (.inr ⟨.sl rows rows lim rfl (fun i r r' h1 h2 => ?_) (fun i r r' j x x' h1 h2 h3 h4 => ?_), hz⟩), f⟩
  · rw [h1] at h2; injection h2 with h2; rw [h2]
  · rw [h1] at h2; injection h2 with h2; subst h2
    rw [h3] at h4; injection h4 with h4; subst h4
    exact .refl _

theorem FrzL.forget {h h2 : Heap} {rows : List (List AVal)} {lim : Option Nat} {xs ys : List AVal} (f : FrzL h h2 xs ys) : FrzL h h2 (.sl rows lim :: xs) (.sl rows none :: ys) := by
  refine ⟨.sl rows rows lim rfl (fun i r r' h1 h2 => ?_) (fun i r r' j x x' h1 h2 h3 h4 => ?_), f⟩
  · rw [h1] at h2; injection h2 with h2; rw [h2]
  · rw [h1] at h2; injection h2 with h2; subst h2
    rw [h3] at h4; injection h4 with h4; subst h4
    exact .refl _

theorem FrzL.ofFrz {h h2 : Heap} {x y : AVal} {xs ys : List AVal} (hx : Frz h (fun id => lk h2 id = none) x y) (f : FrzL h h2 xs ys) : FrzL h h2 (x :: xs) (y :: ys) := ⟨hx, f⟩

end

theorem Frz.nowhere {S : Nat → Prop} {x y : AVal} (f : Frz [] S x y) : Frz [] (· ∈ ([] : List Nat)) x y := by
  induction f with
  | refl x => exact .refl x
  | ref id sz base len ex c esz rows rows' lim hS hk hsz hlen hlim hrow hrel ih => simp [lk] at hk
  | ptr id sz row col esz rows r cells hS hk hsz hr hlen hrel ih => simp [lk] at hk
  | agg xs ys hlen hrel ih => exact .agg xs ys hlen ih
  | tuple xs ys hlen hrel ih => exact .tuple xs ys hlen ih
  | func fn xs ys us vs hlen hlen' hrel hrel' ih ih' => exact .func fn xs ys us vs hlen hlen' ih ih'
  | iface t x y hrel ih => exact .iface t x y ih
  | sl rows rows' lim hlen hrow hrel ih => exact .sl rows rows' lim hlen hrow ih

/-- The kept cells of what a function value captured. -/
theorem FrzL.fn1 {h h2 : Heap} {fn : Fn} {id esz : Nat} {cs : List AVal} {xs ys : List AVal} (hl : lk h id = some (.arr esz [cs])) (hS : lk h2 id = none) (f : FrzL h h2 xs ys) :
    FrzL h h2 (.func fn [] [.ptr id 1 0 0] :: xs) (.func fn [] [.fp cs] :: ys) := by
  refine .ofFrz (.func fn [] [] _ _ rfl rfl (fun i x y hx => by simp at hx) fun i x y hx hy => ?_) f
  cases i with
  | zero =>
    simp at hx hy
    subst hx
    subst hy
    refine .ptr id 1 0 0 esz [cs] cs cs hS hl rfl rfl (by simp) fun j x x' h1 h2 => ?_
    rw [Nat.zero_add] at h1
    rw [h1] at h2; injection h2 with h2; subst h2
    exact .refl _
  | succ i => simp at hx

/-! ### Freezing, cell by cell -/

inductive FrC (h : Heap) (S : Nat → Prop) : List AVal → List AVal → Prop
  | nil : FrC h S [] []
  | cons {x y : AVal} {xs ys : List AVal} (h1 : Frz h S x y) (h2 : FrC h S xs ys) : FrC h S (x :: xs) (y :: ys)

theorem FrC.len {h : Heap} {S : Nat → Prop} {xs ys : List AVal} (f : FrC h S xs ys) : ys.length = xs.length := by
  induction f with
  | nil => rfl
  | cons _ _ ih => simp [ih]

theorem FrC.get {h : Heap} {S : Nat → Prop} {xs ys : List AVal} (f : FrC h S xs ys) : ∀ (k : Nat) x y, xs[k]? = some x → ys[k]? = some y → Frz h S x y := by
  induction f with
  | nil => intro k x y hx; simp at hx
  | cons h1 _ ih =>
    intro k x y hx hy
    cases k with
    | zero => simp at hx hy; subst hx; subst hy; exact h1
    | succ k => exact ih k x y (by simpa using hx) (by simpa using hy)

theorem FrC.refl {h : Heap} {S : Nat → Prop} : ∀ xs : List AVal, FrC h S xs xs
  | [] => .nil
  | x :: xs => .cons (.refl x) (FrC.refl xs)

theorem FrC.append {h : Heap} {S : Nat → Prop} {xs ys us vs : List AVal} (f : FrC h S xs ys) (g : FrC h S us vs) : FrC h S (xs ++ us) (ys ++ vs) := by
  induction f with
  | nil => exact g
  | cons h1 _ ih => exact .cons h1 ih

theorem Frz.aggC {h : Heap} {S : Nat → Prop} {xs ys : List AVal} (f : FrC h S xs ys) : Frz h S (.agg xs) (.agg ys) := .agg xs ys f.len f.get
theorem Frz.tupleC {h : Heap} {S : Nat → Prop} {xs ys : List AVal} (f : FrC h S xs ys) : Frz h S (.tuple xs) (.tuple ys) := .tuple xs ys f.len f.get

/-- Rows, row by row. -/
inductive FrR (h : Heap) (S : Nat → Prop) : List (List AVal) → List (List AVal) → Prop
  | nil : FrR h S [] []
  | cons {x y : List AVal} {xs ys : List (List AVal)} (h1 : FrC h S x y) (h2 : FrR h S xs ys) : FrR h S (x :: xs) (y :: ys)

theorem FrR.len {h : Heap} {S : Nat → Prop} {xs ys : List (List AVal)} (f : FrR h S xs ys) : ys.length = xs.length := by
  induction f with
  | nil => rfl
  | cons _ _ ih => simp [ih]

theorem FrR.get {h : Heap} {S : Nat → Prop} {xs ys : List (List AVal)} (f : FrR h S xs ys) : ∀ (k : Nat) x y, xs[k]? = some x → ys[k]? = some y → FrC h S x y := by
  induction f with
  | nil => intro k x y hx; simp at hx
  | cons h1 _ ih =>
    intro k x y hx hy
    cases k with
    | zero => simp at hx hy; subst hx; subst hy; exact h1
    | succ k => exact ih k x y (by simpa using hx) (by simpa using hy)

theorem Frz.slR {h : Heap} {S : Nat → Prop} {xs ys : List (List AVal)} {lim : Option Nat} (f : FrR h S xs ys) : Frz h S (.sl xs lim) (.sl ys Option.none) :=
  .sl xs ys lim f.len (fun i r r' h1 h2 => (f.get i r r' h1 h2).len) (fun i r r' j x x' h1 h2 => (f.get i r r' h1 h2).get j x x')

/-- A whole object's rows. -/
theorem Frz.refR {h : Heap} {S : Nat → Prop} {id n esz c : Nat} {ex : Bool} {xs ys : List (List AVal)} (hS : S id) (hl : lk h id = some (.arr esz xs)) (hn : xs.length = n) (f : FrR h S xs ys) : Frz h S (.ref id n 0 n ex c) (.sl ys Option.none) := by
  refine .ref id n 0 n ex c esz xs ys Option.none hS hl hn (by rw [f.len, hn]) (.inl rfl) (fun i r r' h1 h2 => (f.get i r r' ?_ h2).len) (fun i r r' j x x' h1 h2 => (f.get i r r' ?_ h2).get j x x')
  · simpa using h1
  · simpa using h1

theorem Frz.refE {h : Heap} {S : Nat → Prop} {id n esz c : Nat} {ex : Bool} {xs ys : List (List AVal)} (hS : S id) (hl : lk h id = some (.arr esz xs)) (e : xs = ys) (hn : ys.length = n) : Frz h S (.ref id n 0 n ex c) (.sl ys Option.none) := by
  subst e
  have := Frz.ref0 (h := h) (S := S) (id := id) (sz := n) (base := 0) (len := n) (ex := ex) (c := c) hS hl hn (by omega)
  rw [List.drop_zero, List.take_of_length_le (by omega)] at this
  exact this

theorem FrR.refl {h : Heap} {S : Nat → Prop} : ∀ xs : List (List AVal), FrR h S xs xs
  | [] => .nil
  | x :: xs => .cons (.refl x) (FrR.refl xs)

/-! ### What a function hands back -/

theorem retQ_frz {P : Program} {rs : List ResultVar} {Q : AVal → Prop} {s : St} {xs : List AVal} {r : AVal} (h : resAs P s rs = some xs) (hq : Q r) (hz : Fz r) (hf : Frz s.h (fun _ => True) (packA xs) r) : retQ P rs Q .ret s := ⟨xs, r, h, hf, hz, hq⟩
theorem retN_frz {P : Program} {rs : List ResultVar} {Q : AVal → Prop} {s : St} {xs : List AVal} {r : AVal} (h : resAs P s rs = some xs) (hq : Q r) (hz : Fz r) (hf : Frz s.h (fun _ => True) (packA xs) r) : retQ P rs Q .normal s := ⟨xs, r, h, hf, hz, hq⟩

/-! ### Typed rows -/

/-- How a value of a type lies in cells. -/
class Enc (α : Type) where
  enc : α → List AVal
  size : Nat
  len : ∀ x, (enc x).length = size
  fz : ∀ x y, y ∈ enc x → Fz y

def rws {α : Type} [Enc α] (l : List α) : List (List AVal) := l.map Enc.enc

section
variable {α : Type} [Enc α]

theorem rws_length (l : List α) : (rws l).length = l.length := by simp [rws]
theorem rws_nil : rws ([] : List α) = [] := rfl
theorem rws_cons (x : α) (l : List α) : rws (x :: l) = Enc.enc x :: rws l := rfl
theorem rws_get {l : List α} {i : Nat} {x : α} (h : l[i]? = some x) : (rws l)[i]? = some (Enc.enc x) := by simp [rws, h]
theorem rws_append (l m : List α) : rws l ++ rws m = rws (l ++ m) := by simp [rws]
theorem rws_snoc (l : List α) (x : α) : rws l ++ [Enc.enc x] = rws (l ++ [x]) := by simp [rws]
theorem rws_take (l : List α) (n : Nat) : (rws l).take n = rws (l.take n) := by simp [rws]
theorem rws_drop (l : List α) (n : Nat) : (rws l).drop n = rws (l.drop n) := by simp [rws]
theorem rws_set (l : List α) (n : Nat) (x : α) : (rws l).set n (Enc.enc x) = rws (l.set n x) := by simp [rws, List.map_set]
theorem rws_rep (n : Nat) (x : α) : List.replicate n (Enc.enc x) = rws (List.replicate n x) := by simp [rws]
theorem rws_all (l : List α) (k : Nat) : (∀ r, r ∈ rws l → r.length = k) = (Enc.size α = k ∨ l = []) := by
  refine propext ⟨fun h => ?_, fun h r hr => ?_⟩
  · cases l with
    | nil => exact .inr rfl
    | cons x l => exact .inl ((Enc.len x).symm.trans (h _ (by simp [rws])))
  · simp only [rws, List.mem_map] at hr
    obtain ⟨x, hx, rfl⟩ := hr
    rcases h with h | h
    · rw [Enc.len, h]
    · subst h; cases hx
theorem enc_length (x : α) : (Enc.enc x).length = Enc.size α := Enc.len x
theorem rws_mem (l : List α) (r : List AVal) (hr : r ∈ rws l) (x : AVal) (hx : x ∈ r) : Fz x := by
  simp only [rws, List.mem_map] at hr
  obtain ⟨a, _, rfl⟩ := hr
  exact Enc.fz a x hx
theorem rws_fz (l : List α) (lim : Option Nat) : Fz (.sl (rws l) lim) := .sl _ _ (rws_mem l)
theorem rws_fz_iff (l : List α) (lim : Option Nat) : Fz (.sl (rws l) lim) ↔ True := ⟨fun _ => trivial, fun _ => rws_fz l lim⟩
theorem rws_nm_iff (p : Nat → Prop) (l : List α) (lim : Option Nat) : Nm p (.sl (rws l) lim) ↔ True := ⟨fun _ => trivial, fun _ => Fz.nm (rws_fz l lim) p⟩
theorem rws_onm (p : Nat → Prop) (esz : Nat) (l : List α) : (Ob.arr esz (rws l)).nm p ↔ True := ⟨fun _ => trivial, fun _ r hr x hx => Fz.nm (rws_mem l r hr x hx) p⟩
theorem enc_mem_iff (x : α) : (∀ y, y ∈ Enc.enc x → Fz y) ↔ True := ⟨fun _ => trivial, fun _ => Enc.fz x⟩
theorem enc_memN_iff (p : Nat → Prop) (x : α) : (∀ y, y ∈ Enc.enc x → Nm p y) ↔ True := ⟨fun _ => trivial, fun _ y hy => Fz.nm (Enc.fz x y hy) p⟩
theorem rws_mem_iff (p : Nat → Prop) (l : List α) : (∀ r, r ∈ rws l → ∀ x, x ∈ r → Nm p x) ↔ True := ⟨fun _ => trivial, fun _ r hr x hx => Fz.nm (rws_mem l r hr x hx) p⟩
theorem enc_fz_agg (x : α) : Fz (.agg (Enc.enc x)) := .agg _ (Enc.fz x)
theorem enc_fz_iff (x : α) : Fz (.agg (Enc.enc x)) ↔ True := ⟨fun _ => trivial, fun _ => enc_fz_agg x⟩
theorem enc_nm_iff (p : Nat → Prop) (x : α) : Nm p (.agg (Enc.enc x)) ↔ True := ⟨fun _ => trivial, fun _ => Fz.nm (enc_fz_agg x) p⟩
theorem enc_fp_iff (p : Nat → Prop) (x : α) : Nm p (.fp (Enc.enc x)) ↔ True := ⟨fun _ => trivial, fun _ => .fp _ fun y hy => Fz.nm (Enc.fz x y hy) p⟩

end

instance : Enc Int := ⟨fun n => [.int .i64 n], 1, fun _ => rfl, fun _ _ h => by simp at h; subst h; exact .int _ _⟩
instance : Enc ByteArray := ⟨fun n => [.str n], 1, fun _ => rfl, fun _ _ h => by simp at h; subst h; exact .str _⟩
instance : Enc Bool := ⟨fun n => [.bool n], 1, fun _ => rfl, fun _ _ h => by simp at h; subst h; exact .bool _⟩
instance {α : Type} [Enc α] : Enc (List α) := ⟨fun l => [.sl (rws l) none], 1, fun _ => rfl, fun l _ h => by simp at h; subst h; exact rws_fz l none⟩

theorem enc_int (n : Int) : Enc.enc n = [.int .i64 n] := rfl
theorem enc_str (n : ByteArray) : Enc.enc n = [.str n] := rfl
theorem enc_bool (n : Bool) : Enc.enc n = [.bool n] := rfl
theorem enc_list {α : Type} [Enc α] (l : List α) : Enc.enc l = [.sl (rws l) none] := rfl
theorem size_int : Enc.size Int = 1 := rfl
theorem size_str : Enc.size ByteArray = 1 := rfl
theorem size_bool : Enc.size Bool = 1 := rfl
theorem size_list {α : Type} [Enc α] : Enc.size (List α) = 1 := rfl

theorem rws_snocT {α : Type} [Enc α] {l : List α} {i : Nat} {x : α} (h : l[i]? = some x) : rws (l.take i) ++ [Enc.enc x] = rws (l.take (i + 1)) := by
  rw [rws_snoc]
  congr 1
  rw [List.take_add_one, h]
  rfl

/-- The object at the heap's head is written no more. -/
theorem W_freezeHd {P : Program} {n0 : Nat} {Q : Exit → St → Prop} {k : List It} {c : Code} {tm tm' : List AVal} {hp : Heap} {nx id esz : Nat} {xs : List (List AVal)} (hlk : lk hp id = none) (hf : FzL ((id, .arr esz xs) :: hp) hp tm tm') (h : AWP P n0 c (unw P n0 k Q) ⟨tm', hp, nx⟩) :
    AWP P n0 c (unw P n0 k Q) ⟨tm, (id, .arr esz xs) :: hp, nx⟩ := W_freeze (fun j ob e => by
      simp only [lk]
      split
      · rename_i hi; subst hi; rw [hlk] at e; cases e
      · exact e) hf h

theorem FzL.wholeT {α : Type} [Enc α] {hp : Heap} {id n c esz : Nat} {ex : Bool} {r : List (List AVal)} {xs ys : List AVal} (l : List α) (e : r = rws l) (hn : l.length = n) (hlk : lk hp id = none) (f : FzL ((id, .arr esz r) :: hp) hp xs ys) :
    FzL ((id, .arr esz r) :: hp) hp (.ref id n 0 n ex c :: xs) (.sl (rws l) none :: ys) := by
  subst e
  exact FzL.whole (lk_head _ _ _) hlk (by rw [rws_length, hn]) (rws_fz l none) f

theorem nm_tuple (p : Nat → Prop) (xs : List AVal) : Nm p (.tuple xs) ↔ ∀ x, x ∈ xs → Nm p x := ⟨fun h => by cases h with | tuple _ h => exact h, fun h => .tuple _ h⟩
theorem nm_fp (p : Nat → Prop) (xs : List AVal) : Nm p (.fp xs) ↔ ∀ x, x ∈ xs → Nm p x := ⟨fun h => by cases h with | fp _ h => exact h, fun h => .fp _ h⟩
theorem nm_func (p : Nat → Prop) (fn : Fn) (xs ys : List AVal) : Nm p (.func fn xs ys) ↔ (∀ x, x ∈ xs → Nm p x) ∧ (∀ x, x ∈ ys → Nm p x) := ⟨fun h => by cases h with | func _ _ _ h h' => exact ⟨h, h'⟩, fun h => .func _ _ _ h.1 h.2⟩
theorem nm_nilp (p : Nat → Prop) : Nm p .nilp ↔ True := ⟨fun _ => trivial, fun _ => .nilp⟩
theorem nm_nilFunc (p : Nat → Prop) : Nm p .nilFunc ↔ True := ⟨fun _ => trivial, fun _ => .nilFunc⟩
theorem nm_nilIface (p : Nat → Prop) : Nm p .nilIface ↔ True := ⟨fun _ => trivial, fun _ => .nilIface⟩

/-! ### Rules that gen3 uses -/

section
variable {fl : Bool} {P : Program} {n0 : Nat} {all : Array Oper} {K : St → Prop} {Q : Exit → St → Prop} {k : List It}

/-- A condition that is known. -/
theorem W_condT {tm : List AVal} {hp : Heap} {nx : Nat} {t : Tmp} {x y : Code} {b : Bool} (hb : tm[t]? = some (.bool b)) (hw : b = true)
    (h : AWP P n0 x (unw P n0 k Q) ⟨tm, hp, nx⟩) : AWP P n0 (.cond (.tmp t) x y) (unw P n0 k Q) ⟨tm, hp, nx⟩ := by
  refine W_cond (b := b) ?_ (fun e => h) (fun e => by rw [hw] at e; cases e)
  simp only [ev, List.getD_eq_getElem?_getD, hb, Option.getD_some]

theorem W_condF {tm : List AVal} {hp : Heap} {nx : Nat} {t : Tmp} {x y : Code} {b : Bool} (hb : tm[t]? = some (.bool b)) (hw : b = false)
    (h : AWP P n0 y (unw P n0 k Q) ⟨tm, hp, nx⟩) : AWP P n0 (.cond (.tmp t) x y) (unw P n0 k Q) ⟨tm, hp, nx⟩ := by
  refine W_cond (b := b) ?_ (fun e => by rw [hw] at e; cases e) (fun e => h)
  simp only [ev, List.getD_eq_getElem?_getD, hb, Option.getD_some]

/-- A call; of its arguments' slices the spare room is forgotten. -/
theorem AO_callUE {o : Oper} {rest : List Oper} {i nx nx' : Nat} {tm tm' : List AVal} {hp : Heap} {c : Call} {g : FuncId} {args args' : List AVal} {r : AVal} (hg : guardA all tm o = some true) (ho : o.op = .call c) (ht : target tm c = some (g, args))
    (hc : PCall P g args' (· = r)) (hf : FrzL [] [] args args') (htm : putT tm o.dst r = tm') (hn : nx + 1 = nx') (h : AO P n0 all rest (i + 1) K ⟨tm', hp, nx'⟩) : AO P n0 all (o :: rest) i K ⟨tm, hp, nx⟩ := by
  subst htm
  subst hn
  refine AO_call hg ho ht hc hf.get.1 (fun _ _ h => h) (fun k x y hx hy => ?_) ?_
  · exact (Frz.widen (fun _ h => h.elim) (Frz.none ((hf.get.2 k x y hx hy).nowhere) hp))
  · rintro r' rfl
    exact h

theorem D_callUE {nx : Nat} {o : Oper} {rest : List Oper} {i i' : Nat} {tm tm' : List AVal} {hp : Heap} {tc tc' : List (Bool × List Nat)} {c : Call} {g : FuncId} {args args' : List AVal} {r : AVal} (hg : guardA all tm o = some true) (ho : o.op = .call c) (ht : target tm c = some (g, args))
    (hc : PCall P g args' (· = r)) (hf : FrzL [] [] args args') (htm : putT tm o.dst r = tm') (hn : i + 1 = i') (htc : tc ++ [(false, [])] = tc') (h : DW fl P all nx K rest i' tm' hp tc') : DW fl P all nx K (o :: rest) i tm hp tc := by
  subst htm
  subst hn
  subst htc
  refine D_call c g args args' r [] hg ho ht hc hf.get.1 (fun k x y hx hy => ?_) (.inr rfl) h
  exact Frz.widen (fun _ h => h.elim) (Frz.none ((hf.get.2 k x y hx hy).nowhere) hp)

end

theorem wkD {xs ys : List AVal} (h : dropL xs ys := by simp [dropL, msk]) : dropL xs ys := h
theorem wkDT {xs ys : List AVal} (h : dropL xs ys := by first | (simp [dropL, msk]; done) | fail) : dropL xs ys := h
theorem sub_keepE {i : Nat} {ob ob' : Ob} {h h' : Heap} (e : ob' = ob) (hh : ∀ id o, lk h' id = some o → lk h id = some o) : ∀ id o, lk ((i, ob') :: h') id = some o → lk ((i, ob) :: h) id = some o := by
  subst e
  exact sub_keep hh
theorem wkH {h h' : Heap} (e : ∀ id o, lk h' id = some o → lk h id = some o := by (repeat first | exact lk_same _ | apply sub_keep | (refine sub_drop ?_ rfl) | (apply sub_keepE; (case e => first | (simp; done) | (simp [rws]; done))))) : ∀ id o, lk h' id = some o → lk h id = some o := e
theorem wkN {n : Nat} {xs : List AVal} (h : nmL n xs := by simp [nmL, msk, nm_junk, nm_int, nm_bool, nm_str, nm_ref, nm_ptr, nm_ri, nm_nil, nm_agg, nm_tuple, nm_fp, nm_func, nm_nilp, nm_nilFunc, nm_nilIface, nm_mapv, mpe_onm, rws_nm_iff, enc_nm_iff, enc_memN_iff, enc_fp_iff]) : nmL n xs := h
theorem wkNT {n : Nat} {xs : List AVal} (h : nmL n xs := by first | (simp [nmL, msk, nm_junk, nm_int, nm_bool, nm_str, nm_ref, nm_ptr, nm_ri, nm_nil, nm_agg, nm_tuple, nm_fp, nm_func, nm_nilp, nm_nilFunc, nm_nilIface, nm_mapv, mpe_onm, rws_nm_iff, enc_nm_iff, enc_memN_iff, enc_fp_iff]; done) | fail) : nmL n xs := h
theorem wkM {n : Nat} {h : Heap} (e : nmH n h := by simp [nmH, rws_onm, rws_mem_iff, nm_ori, nm_oarr, nm_junk, nm_int, nm_bool, nm_str, nm_ref, nm_ptr, nm_ri, nm_nil, nm_agg, nm_tuple, nm_fp, nm_func, nm_nilp, nm_nilFunc, nm_nilIface, nm_mapv, mpe_onm, rws_nm_iff, enc_nm_iff, enc_memN_iff, enc_fp_iff]) : nmH n h := e
theorem wkMT {n : Nat} {h : Heap} (e : nmH n h := by first | (simp [nmH, rws_onm, rws_mem_iff, nm_ori, nm_oarr, nm_junk, nm_int, nm_bool, nm_str, nm_ref, nm_ptr, nm_ri, nm_nil, nm_agg, nm_tuple, nm_fp, nm_func, nm_nilp, nm_nilFunc, nm_nilIface, nm_mapv, mpe_onm, rws_nm_iff, enc_nm_iff, enc_memN_iff, enc_fp_iff]; done) | fail) : nmH n h := e
theorem Fz.tuple_iff (l : List AVal) : Fz (.tuple l) ↔ ∀ x, x ∈ l → Fz x := ⟨fun h => by cases h with | tuple _ h => exact h, fun h => .tuple l h⟩
theorem Fz.func_iff (fn : Fn) (l m : List AVal) : Fz (.func fn l m) ↔ (∀ x, x ∈ l → Fz x) ∧ (∀ x, x ∈ m → Fz x) := nm_func _ fn l m
theorem Fz.fp_iff (l : List AVal) : Fz (.fp l) ↔ ∀ x, x ∈ l → Fz x := nm_fp _ l

end Go.AM

namespace Go.AM
open Go
attribute [go_sem] Nat.sub_zero Bool.true_and Bool.and_true Bool.false_and Bool.and_false Bool.true_or Bool.or_true Bool.false_or Bool.or_false List.append_eq ibeq_iff ibeq_niff ibne_iff ibne_niff decide_eq_true_eq decide_eq_false_iff_not Int.not_lt Int.not_le Bool.not_eq_true' Bool.not_eq_false' Bool.not_eq_true Bool.not_eq_false ge_iff_le gt_iff_lt dec_t dec_f ite_t ite_f wrap_i wrap_u ibeq_t ibeq_f ibne_t ibne_f max_l max_r
  rws_length rws_nil rws_all enc_length enc_int enc_str enc_bool enc_list size_int size_str size_bool size_list
attribute [go_sem] reduceCtorEq reduceIte Nat.reduceAdd Nat.reduceSub Nat.reduceMul Nat.reduceLT Nat.reduceLeDiff Nat.reduceEqDiff Nat.reduceBEq Nat.reducePow Int.reduceNeg Int.reduceLT Int.reduceLE Int.reduceEq Int.reduceToNat Int.reducePow Int.reduceMul Int.reduceAdd Int.reduceSub Int.reduceBEq Int.reduceBNe
end Go.AM
