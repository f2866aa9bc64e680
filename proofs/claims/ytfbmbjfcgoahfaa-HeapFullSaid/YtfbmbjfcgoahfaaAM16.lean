/-
  AM, part 16: an operation looks at few slots and few objects.
-/
import Derived.Test.YtfbmbjfcgoahfaaAM15
import Derived.Orders
namespace Go.AM
open Go

def touchOf : AVal → List Nat
  | .ref id _ _ _ _ _ => [id]
  | .ptr id _ _ _ => [id]
  | .mapv id => [id]
  | _ => []

def touched (tm : List AVal) (o : Oper) : List Nat := o.op.operands.toList.flatMap fun x => touchOf (ev tm x)

/-- Two heaps turn in the same way. -/
inductive Eff (f : Nat) (T : List Nat) (h1 h1' h2 h2' : Heap) : Prop
  | none (e1 : h1' = h1) (e2 : h2' = h2)
  | new (ob : Ob) (e1 : h1' = (f, ob) :: h1) (e2 : h2' = (f, ob) :: h2)
  | upd (id : Nat) (ob ob0 : Ob) (hT : id ∈ T) (hl : lk h1 id = some ob0) (e1 : h1' = hset h1 id ob) (e2 : h2' = hset h2 id ob)

theorem lk_cons (f : Nat) (ob : Ob) (h : Heap) (j : Nat) : lk ((f, ob) :: h) j = if j = f then some ob else lk h j := by
  simp only [lk]
  by_cases e : f = j
  · simp [e]
  · have : ¬ j = f := fun e' => e e'.symm
    simp [e, this]

theorem Eff.same {f : Nat} {T : List Nat} {h1 h1' h2 h2' : Heap} (e : Eff f T h1 h1' h2 h2') (hT : ∀ id, id ∈ T → lk h1 id = lk h2 id) (id : Nat) (he : lk h1 id = lk h2 id) : lk h1' id = lk h2' id := by
  cases e with
  | none e1 e2 => rw [e1, e2, he]
  | new ob e1 e2 => rw [e1, e2, lk_cons, lk_cons, he]
  | upd i ob ob0 hi hl e1 e2 => rw [e1, e2, lk_hset ob hl, lk_hset ob (hT i hi ▸ hl), he]

theorem Eff.keep1 {f : Nat} {T : List Nat} {h1 h1' h2 h2' : Heap} (e : Eff f T h1 h1' h2 h2') (id : Nat) (hf : id ≠ f) (ht : id ∉ T) : lk h1' id = lk h1 id := by
  cases e with
  | none e1 e2 => rw [e1]
  | new ob e1 e2 => rw [e1, lk_cons, if_neg hf]
  | upd i ob ob0 hi hl e1 e2 => rw [e1, lk_hset ob hl, if_neg (fun (e : id = i) => ht (e ▸ hi))]

theorem Eff.keep2 {f : Nat} {T : List Nat} {h1 h1' h2 h2' : Heap} (e : Eff f T h1 h1' h2 h2') (hT : ∀ id, id ∈ T → lk h1 id = lk h2 id) (id : Nat) (hf : id ≠ f) (ht : id ∉ T) : lk h2' id = lk h2 id := by
  cases e with
  | none e1 e2 => rw [e2]
  | new ob e1 e2 => rw [e2, lk_cons, if_neg hf]
  | upd i ob ob0 hi hl e1 e2 => rw [e2, lk_hset ob (hT i hi ▸ hl), if_neg (fun (e : id = i) => ht (e ▸ hi))]

theorem cellsFrom_loc {h1 h2 : Heap} {x : AVal} (h : ∀ id, id ∈ touchOf x → lk h1 id = lk h2 id) : cellsFrom h1 x = cellsFrom h2 x := by
  cases x <;> simp only [cellsFrom]
  rename_i id sz row col
  rw [h id (by simp [touchOf])]

theorem aload_loc {P : Program} {h1 h2 : Heap} {t : TypeId} {x : AVal} (h : ∀ id, id ∈ touchOf x → lk h1 id = lk h2 id) : aload P h1 t x = aload P h2 t x := by
  unfold aload
  rw [cellsFrom_loc h]

theorem rowsOf_loc {h1 h2 : Heap} {x : AVal} (h : ∀ id, id ∈ touchOf x → lk h1 id = lk h2 id) : rowsOf h1 x = rowsOf h2 x := by
  cases x <;> simp only [rowsOf]
  rename_i id sz base len ex c
  rw [h id (by simp [touchOf])]

theorem aindexAddr_loc {P : Program} {h1 h2 : Heap} {t : TypeId} {x i : AVal} (h : ∀ id, id ∈ touchOf x → lk h1 id = lk h2 id) : aindexAddr P h1 t x i = aindexAddr P h2 t x i := by
  unfold aindexAddr
  cases x <;> try rfl
  rename_i id sz base len ex c
  simp only [h id (by simp [touchOf])]

theorem aslice_loc {P : Program} {h1 h2 : Heap} {t : TypeId} {x : AVal} {lo hi mx : Option AVal} (h : ∀ id, id ∈ touchOf x → lk h1 id = lk h2 id) : aslice P h1 t x lo hi mx = aslice P h2 t x lo hi mx := by
  unfold aslice
  split
  · split
    · rfl
    · rfl
    · rename_i id sz base len ex c _
      have e := h id (by simp [touchOf])
      rw [e]
    · rfl
  · rfl

theorem astore_loc {P : Program} {h1 h2 h1' : Heap} {t : TypeId} {x v : AVal} (h : ∀ id, id ∈ touchOf x → lk h1 id = lk h2 id) (hs : astore P h1 t x v = some h1') (f : Nat) :
    ∃ h2', astore P h2 t x v = some h2' ∧ Eff f (touchOf x) h1 h1' h2 h2' := by
  unfold astore at hs ⊢
  split at hs
  case h_2 => cases hs
  rename_i ti id sz row col cs ht hc
  try simp only [ht, hc]
  split at hs
  case h_2 => cases hs
  rename_i esz rows hl
  rw [← h id (by simp [touchOf]), hl]
  simp only []
  split at hs
  case isFalse => cases hs
  rename_i hsz
  rw [if_pos hsz]
  split at hs
  case h_2 => cases hs
  rename_i r hr
  try simp only [hr]
  split at hs
  case isFalse => cases hs
  rename_i hcond
  rw [if_pos hcond]
  injection hs with hs
  exact ⟨_, rfl, .upd id _ _ (by simp [touchOf]) hl hs.symm rfl⟩

theorem aappend_loc {P : Program} {h1 h2 h1' : Heap} {f : Nat} {st xt : TypeId} {s x y : AVal} (hs : ∀ id, id ∈ touchOf s → lk h1 id = lk h2 id) (hx : ∀ id, id ∈ touchOf x → lk h1 id = lk h2 id)
    (h : aappend P h1 f st xt s x = some (y, h1')) : ∃ h2', aappend P h2 f st xt s x = some (y, h2') ∧ Eff f (touchOf s ++ touchOf x) h1 h1' h2 h2' := by
  unfold aappend at h ⊢
  rw [← rowsOf_loc hx]
  split at h
  case h_2 => cases h
  rename_i e _ _ _ ht
  try simp only [ht]
  split at h
  case h_2 => cases h
  rename_i te new he hnew
  try simp only [he, hnew]
  split at h
  case isFalse => cases h
  rename_i hc
  rw [if_pos hc]
  split at h
  case h_4 => cases h
  case h_1 =>
    split at h
    case isFalse => cases h
    rename_i hlen
    rw [if_pos hlen]
    injection h with h
    injection h with e1 e2
    subst e1
    exact ⟨_, rfl, .new _ e2.symm rfl⟩
  case h_2 =>
    rename_i rows c hne
    split at h
    case isFalse => cases h
    rename_i hlen
    injection h with h
    injection h with e1 e2
    subst e1
    rw [if_pos hlen]
    exact ⟨_, rfl, .new _ e2.symm rfl⟩
  case h_3 =>
    rename_i id sz base len ex c
    rw [← hs id (by simp [touchOf])]
    split at h
    case h_2 => cases h
    rename_i esz rows hl
    try simp only [hl]
    split at h
    case isFalse => cases h
    rename_i hcond
    rw [if_pos hcond]
    split at h
    · rename_i h5
      rw [if_pos h5]
      injection h with h
      injection h with e1 e2
      subst e1
      exact ⟨_, rfl, .upd id _ _ (by simp [touchOf]) hl e2.symm rfl⟩
    · rename_i h5
      rw [if_neg h5]
      split at h
      · rename_i h6
        rw [if_pos h6]
        injection h with h
        injection h with e1 e2
        subst e1
        exact ⟨_, rfl, .upd id _ _ (by simp [touchOf]) hl e2.symm rfl⟩
      · rename_i h6
        rw [if_neg h6]
        split at h
        case isFalse => cases h
        rename_i h7
        rw [if_pos h7]
        injection h with h
        injection h with e1 e2
        subst e1
        exact ⟨_, rfl, .new _ e2.symm rfl⟩

theorem alookup_loc {P : Program} {h1 h2 : Heap} {t : TypeId} {x k : AVal} {ok : Bool} (h : ∀ id, id ∈ touchOf x → lk h1 id = lk h2 id) : alookup P h1 t x k ok = alookup P h2 t x k ok := by
  unfold alookup
  cases x <;> try rfl
  rename_i id
  simp only [h id (by simp [touchOf])]

theorem amapUpdate_loc {P : Program} {h1 h2 h1' : Heap} {t : TypeId} {x k v : AVal} (h : ∀ id, id ∈ touchOf x → lk h1 id = lk h2 id) (hs : amapUpdate P h1 t x k v = some h1') (f : Nat) :
    ∃ h2', amapUpdate P h2 t x k v = some h2' ∧ Eff f (touchOf x) h1 h1' h2 h2' := by
  unfold amapUpdate at hs ⊢
  split at hs
  case h_2 => cases hs
  rename_i ht
  try simp only [ht]
  split at hs
  case h_2 => cases hs
  rename_i hk
  try simp only [hk]
  split at hs
  case isFalse => cases hs
  rename_i hko
  rw [if_pos hko]
  split at hs
  case h_2 => cases hs
  rename_i id
  split at hs
  case h_2 => cases hs
  rename_i es hl
  rw [← h id (by simp [touchOf]), hl]
  simp only []
  split at hs
  case isFalse => cases hs
  rename_i hks
  rw [if_pos hks]
  injection hs with hs
  exact ⟨_, rfl, .upd id _ _ (by simp [touchOf]) hl hs.symm rfl⟩

theorem amapEntry_loc {P : Program} {h1 h2 h1' : Heap} {t : TypeId} {x k y : AVal} (h : ∀ id, id ∈ touchOf x → lk h1 id = lk h2 id) (hs : amapEntry P h1 t x k = some (y, h1')) (f : Nat) :
    ∃ h2', amapEntry P h2 t x k = some (y, h2') ∧ Eff f (touchOf x) h1 h1' h2 h2' := by
  unfold amapEntry at hs ⊢
  split at hs
  case h_2 => cases hs
  rename_i ht
  try simp only [ht]
  split at hs
  case h_2 => cases hs
  rename_i hk1 hk2
  try simp only [hk1, hk2]
  split at hs
  case isFalse => cases hs
  rename_i hko
  rw [if_pos hko]
  split at hs
  case h_2 => cases hs
  rename_i id
  split at hs
  case h_2 => cases hs
  rename_i es hl
  rw [← h id (by simp [touchOf]), hl]
  simp only []
  split at hs
  case isFalse => cases hs
  rename_i hks
  rw [if_pos hks]
  split at hs
  · rename_i he
    try simp only [he]
    injection hs with hs
    injection hs with e1 e2
    subst e1
    exact ⟨_, rfl, .upd id _ _ (by simp [touchOf]) hl e2.symm rfl⟩
  · rename_i he
    try simp only [he]
    injection hs with hs
    injection hs with e1 e2
    subst e1
    exact ⟨_, rfl, .upd id _ _ (by simp [touchOf]) hl e2.symm rfl⟩

theorem aentryStore_loc {h1 h2 h1' : Heap} {x k v : AVal} (h : ∀ id, id ∈ touchOf x → lk h1 id = lk h2 id) (hs : aentryStore h1 x k v = some h1') (f : Nat) :
    ∃ h2', aentryStore h2 x k v = some h2' ∧ Eff f (touchOf x) h1 h1' h2 h2' := by
  unfold aentryStore at hs ⊢
  split at hs
  case h_2 => cases hs
  rename_i id b
  split at hs
  case h_2 => cases hs
  rename_i M hl
  rw [← h id (by simp [touchOf]), hl]
  obtain ⟨es, he, hs⟩ := Option.map_eq_some_iff.1 hs
  simp only [he]
  exact ⟨_, rfl, .upd id _ _ (by simp [touchOf]) hl hs.symm rfl⟩

theorem adelete_loc {P : Program} {h1 h2 h1' : Heap} {t : TypeId} {x k y : AVal} (h : ∀ id, id ∈ touchOf x → lk h1 id = lk h2 id) (hs : adelete P h1 t x k = some (y, h1')) (f : Nat) :
    ∃ h2', adelete P h2 t x k = some (y, h2') ∧ Eff f (touchOf x) h1 h1' h2 h2' := by
  unfold adelete at hs ⊢
  split at hs
  case h_2 => cases hs
  rename_i ht
  try simp only [ht]
  split at hs
  case h_2 => cases hs
  rename_i hk
  try simp only [hk]
  split at hs
  case isFalse => cases hs
  rename_i hko
  rw [if_pos hko]
  split at hs
  case h_2 => cases hs
  rename_i id
  split at hs
  case h_2 => cases hs
  rename_i es hl
  rw [← h id (by simp [touchOf]), hl]
  simp only []
  split at hs
  case isFalse => cases hs
  rename_i hks
  rw [if_pos hks]
  injection hs with hs
  injection hs with e1 e2
  subst e1
  exact ⟨_, rfl, .upd id _ _ (by simp [touchOf]) hl e2.symm rfl⟩

theorem mem_touched {tm : List AVal} {o : Oper} {x : Operand} (hx : x ∈ o.op.operands) (id : Nat) (h : id ∈ touchOf (ev tm x)) : id ∈ touched tm o :=
  List.mem_flatMap.2 ⟨x, by simpa using hx, h⟩

theorem Eff.widen {f : Nat} {T T' : List Nat} {h1 h1' h2 h2' : Heap} (e : Eff f T h1 h1' h2 h2') (hT : ∀ id, id ∈ T → id ∈ T') : Eff f T' h1 h1' h2 h2' := by
  cases e with
  | none e1 e2 => exact .none e1 e2
  | new ob e1 e2 => exact .new ob e1 e2
  | upd i ob ob0 hi hl e1 e2 => exact .upd i ob ob0 (hT i hi) hl e1 e2

/-- An operation over two heaps that are alike in what it looks at. -/
theorem astep_loc {P : Program} {tm : List AVal} {h1 h2 h1' : Heap} {f : Nat} {o : Oper} {y : AVal} (hl : ∀ id, id ∈ touched tm o → lk h1 id = lk h2 id) (h : astep P tm h1 f o = some (y, h1')) :
    ∃ h2', astep P tm h2 f o = some (y, h2') ∧ Eff f (touched tm o) h1 h1' h2 h2' := by
  have same : ∀ {g : Heap → Option AVal}, g h1 = g h2 → (g h1).map (fun y => (y, h1)) = some (y, h1') → ∃ h2', (g h2).map (fun y => (y, h2)) = some (y, h2') ∧ Eff f (touched tm o) h1 h1' h2 h2' := fun e hh => by
    obtain ⟨z, h3, h4⟩ := Option.map_eq_some_iff.1 hh
    injection h4 with e1 e2
    subst e1
    rw [e] at h3
    exact ⟨h2, by rw [h3]; rfl, .none e2.symm rfl⟩
  have pure' : ∀ {z : AVal}, some (z, h1) = some (y, h1') → ∃ h2', some (z, h2) = some (y, h2') ∧ Eff f (touched tm o) h1 h1' h2 h2' := fun hh => by
    injection hh with hh
    injection hh with e1 e2
    exact ⟨h2, by rw [e1], .none e2.symm rfl⟩
  have box : ∀ {x : AVal}, abox h1 f x = some (y, h1') → ∃ h2', abox h2 f x = some (y, h2') ∧ Eff f (touched tm o) h1 h1' h2 h2' := fun hh => by
    unfold abox at hh ⊢
    split at hh
    · rename_i cs hc
      injection hh with hh
      injection hh with e1 e2
      subst e1
      exact ⟨_, rfl, .new _ e2.symm rfl⟩
    · cases hh
  have mt : ∀ x, x ∈ o.op.operands → ∀ id, id ∈ touchOf (ev tm x) → lk h1 id = lk h2 id := fun x hx id hid => hl id (mem_touched hx id hid)
  have mt' : ∀ x, x ∈ o.op.operands → ∀ id, id ∈ touchOf (ev tm x) → id ∈ touched tm o := fun x hx id hid => mem_touched hx id hid
  obtain ⟨dst, op, type, pos, after, guard⟩ := o
  cases op <;> simp only [astep] at h ⊢ <;> try (cases h; done)
  case move x => exact pure' h
  case assign x => exact pure' h
  case pick c x z =>
    split at h
    · exact pure' h
    · cases h
  case alloc elem =>
    split at h
    · exact box h
    · cases h
  case box elem x => exact box h
  case build t parts => exact same (g := fun _ => abuild P t (evp tm parts)) rfl h
  case buildSlice t len parts =>
    unfold abuildSlice at h ⊢
    split at h
    case h_2 => cases h
    rename_i e _ _ _ ht
    try simp only [ht]
    split at h
    case h_2 => cases h
    rename_i te he
    try simp only [he]
    split at h
    case h_2 => cases h
    rename_i z hz
    try simp only [hz]
    split at h
    case isFalse => cases h
    rename_i hc
    rw [if_pos hc]
    split at h
    case h_2 => cases h
    rename_i rows hr
    try simp only [hr]
    injection h with h
    injection h with e1 e2
    subst e1
    exact ⟨_, rfl, .new _ e2.symm rfl⟩
  case load t x => exact same (g := fun h => aload P h t (ev tm x)) (aload_loc (mt x (by simp [Op.operands]))) h
  case store t x z =>
    obtain ⟨h3, h4, h5⟩ := Option.map_eq_some_iff.1 h
    injection h5 with e1 e2
    subst e1 e2
    obtain ⟨h2', h6, h7⟩ := astore_loc (mt x (by simp [Op.operands])) h4 f
    exact ⟨h2', by rw [h6]; rfl, h7.widen (mt' x (by simp [Op.operands]))⟩
  case nilCheck x =>
    split at h
    case isFalse => cases h
    rename_i hc
    obtain ⟨h2', h3, h4⟩ := pure' h
    exact ⟨h2', by rw [if_pos hc]; exact h3, h4⟩
  case binOp op t x z yt => exact same (g := fun _ => abin P op t (ev tm x) (ev tm z)) rfl h
  case unOp op t x => exact same (g := fun _ => aunary op (ev tm x)) rfl h
  case convert src dst' x =>
    split at h
    · exact same (g := fun _ => aconvert P dst' (ev tm x)) rfl h
    · cases h
  case makeInterface t x => exact same (g := fun _ => aiface P t (ev tm x)) rfl h
  case makeFunc fn first captured => exact pure' h
  case makeSlice t l c =>
    unfold amakeSlice at h ⊢
    split at h
    case h_2 => cases h
    rename_i k1 l' k2 c' hl' hc'
    try simp only [hl', hc']
    split at h
    case h_2 => cases h
    rename_i e _ _ _ ht
    try simp only [ht]
    split at h
    case h_2 => cases h
    rename_i te he
    try simp only [he]
    split at h
    case h_2 => cases h
    rename_i z hz
    try simp only [hz]
    split at h
    case isFalse => cases h
    rename_i hc
    rw [if_pos hc]
    injection h with h
    injection h with e1 e2
    subst e1
    exact ⟨_, rfl, .new _ e2.symm rfl⟩
  case slice t x lo hi mx => exact same (g := fun h => aslice P h t (ev tm x) (lo.map (ev tm)) (hi.map (ev tm)) (mx.map (ev tm))) (aslice_loc (mt x (by simp [Op.operands]))) h
  case fieldAddr t x fl => exact same (g := fun _ => afieldAddr P t (ev tm x) fl) rfl h
  case field t x fl => exact same (g := fun _ => afield P t (ev tm x) fl) rfl h
  case indexAddr t x ix => exact same (g := fun h => aindexAddr P h t (ev tm x) (ev tm ix)) (aindexAddr_loc (mt x (by simp [Op.operands]))) h
  case index t x ix => exact same (g := fun _ => aindex P t (ev tm x) (ev tm ix)) rfl h
  case extract x ix => exact same (g := fun _ => aextract (ev tm x) ix) rfl h
  case makeMap t r =>
    split at h
    · injection h with h
      injection h with e1 e2
      subst e1
      exact ⟨_, rfl, .new _ e2.symm rfl⟩
    · cases h
  case lookup t x k ok => exact same (g := fun h => alookup P h t (ev tm x) (ev tm k) ok) (alookup_loc (mt x (by simp [Op.operands]))) h
  case mapUpdate t m k x =>
    obtain ⟨h3, h4, h5⟩ := Option.map_eq_some_iff.1 h
    injection h5 with e1 e2
    subst e1 e2
    obtain ⟨h2', h6, h7⟩ := amapUpdate_loc (mt m (by simp [Op.operands])) h4 f
    exact ⟨h2', by rw [h6]; rfl, h7.widen (mt' m (by simp [Op.operands]))⟩
  case insert t m k x =>
    obtain ⟨h3, h4, h5⟩ := Option.map_eq_some_iff.1 h
    injection h5 with e1 e2
    subst e1 e2
    obtain ⟨h2', h6, h7⟩ := amapUpdate_loc (mt m (by simp [Op.operands])) h4 f
    exact ⟨h2', by rw [h6]; rfl, h7.widen (mt' m (by simp [Op.operands]))⟩
  case mapEntry t m k =>
    obtain ⟨h2', h6, h7⟩ := amapEntry_loc (mt m (by simp [Op.operands])) h f
    exact ⟨h2', h6, h7.widen (mt' m (by simp [Op.operands]))⟩
  case entryStore t m k x =>
    obtain ⟨h3, h4, h5⟩ := Option.map_eq_some_iff.1 h
    injection h5 with e1 e2
    subst e1 e2
    obtain ⟨h2', h6, h7⟩ := aentryStore_loc (mt m (by simp [Op.operands])) h4 f
    exact ⟨h2', by rw [h6]; rfl, h7.widen (mt' m (by simp [Op.operands]))⟩
  case call c =>
    split at h
    case h_2 => cases h
    rename_i b hb
    unfold abuiltin at h ⊢
    split at h
    case h_6 => cases h
    · rename_i t x hts hxs
      exact same (g := fun _ => alen P t x) rfl h
    · rename_i st xt s x hts hxs
      have hmem : ∀ z, z ∈ evs tm c.args → ∃ q, q ∈ c.args ∧ ev tm q = z := fun z hz => by
        simp only [evs, List.mem_map] at hz
        obtain ⟨q, hq, rfl⟩ := hz
        exact ⟨q, by simpa using hq, rfl⟩
      obtain ⟨q1, hq1, e1⟩ := hmem s (by rw [hxs]; simp)
      obtain ⟨q2, hq2, e2⟩ := hmem x (by rw [hxs]; simp)
      have m1 : q1 ∈ (Op.call c).operands := by simp [Op.operands, Call.operands, hb, hq1]
      have m2 : q2 ∈ (Op.call c).operands := by simp [Op.operands, Call.operands, hb, hq2]
      subst e1 e2
      obtain ⟨h2', h6, h7⟩ := aappend_loc (mt q1 m1) (mt q2 m2) h
      exact ⟨h2', h6, h7.widen fun id hid => by
        rcases List.mem_append.1 hid with hid | hid
        · exact mt' q1 m1 id hid
        · exact mt' q2 m2 id hid⟩
    · rename_i x z hxs
      exact same (g := fun _ => aminmax true x z) rfl h
    · rename_i x z hxs
      exact same (g := fun _ => aminmax false x z) rfl h
    · rename_i t kt m k hts hxs
      obtain ⟨q1, hq1, e1⟩ : ∃ q, q ∈ c.args ∧ ev tm q = m := by
        have hz : m ∈ evs tm c.args := by rw [hxs]; simp
        simp only [evs, List.mem_map] at hz
        obtain ⟨q, hq, e⟩ := hz
        exact ⟨q, by simpa using hq, e⟩
      have m1 : q1 ∈ (Op.call c).operands := by simp [Op.operands, Call.operands, hb, hq1]
      subst e1
      obtain ⟨h2', h6, h7⟩ := adelete_loc (mt q1 m1) h f
      exact ⟨h2', h6, h7.widen (mt' q1 m1)⟩

/-- An operation over two rows of slots that are alike in what it looks at. -/
theorem astep_congr {P : Program} {t1 t2 : List AVal} {h : Heap} {f : Nat} {o : Oper} (he : ∀ x, x ∈ o.op.operands → ev t1 x = ev t2 x) : astep P t1 h f o = astep P t2 h f o := by
  have hevs : ∀ xs : Array Operand, (∀ x, x ∈ xs → ev t1 x = ev t2 x) → evs t1 xs = evs t2 xs := fun xs hx => List.map_congr_left fun x hm => hx x (by simpa using hm)
  have hevp : ∀ xs : Array (Nat × Operand), (∀ x, x ∈ xs.map (·.2) → ev t1 x = ev t2 x) → evp t1 xs = evp t2 xs := fun xs hx => List.map_congr_left fun x hm => by
    rw [hx x.2 (Array.mem_map.2 ⟨x, by simpa using hm, rfl⟩)]
  obtain ⟨dst, op, type, pos, after, guard⟩ := o
  cases op <;> simp only [astep] <;> simp only [Op.operands] at he
  case move x => rw [he x (by simp)]
  case assign x => rw [he x (by simp)]
  case pick c x z => rw [he c (by simp), he x (by simp), he z (by simp)]
  case box elem x => rw [he x (by simp)]
  case build t parts => rw [hevp parts fun x hx => he x (by simpa using hx)]
  case buildSlice t len parts => rw [hevp parts fun x hx => he x (by simpa using hx)]
  case load t x => rw [he x (by simp)]
  case store t x z => rw [he x (by simp), he z (by simp)]
  case nilCheck x => rw [he x (by simp)]
  case binOp op t x z yt => rw [he x (by simp), he z (by simp)]
  case unOp op t x => rw [he x (by simp)]
  case convert src dst' x => rw [he x (by simp)]
  case makeInterface t x => rw [he x (by simp)]
  case makeFunc fn first captured => rw [hevs first fun x hx => he x (by simp [hx]), hevs captured fun x hx => he x (by simp [hx])]
  case makeSlice t l c => rw [he l (by simp), he c (by simp)]
  case slice t x lo hi mx =>
    have ho : ∀ q : Option Operand, (∀ x, x ∈ q → ev t1 x = ev t2 x) → q.map (ev t1) = q.map (ev t2) := fun q hq => by
      cases q with
      | none => rfl
      | some x => simp [hq x rfl]
    rw [he x (by simp), ho lo (fun z hz => he z (by simp; exact .inr (.inl hz))), ho hi (fun z hz => he z (by simp; exact .inr (.inr (.inl hz)))), ho mx (fun z hz => he z (by simp; exact .inr (.inr (.inr hz))))]
  case fieldAddr t x fl => rw [he x (by simp)]
  case field t x fl => rw [he x (by simp)]
  case indexAddr t x ix => rw [he x (by simp), he ix (by simp)]
  case index t x ix => rw [he x (by simp), he ix (by simp)]
  case extract x ix => rw [he x (by simp)]
  case lookup t x k ok => rw [he x (by simp), he k (by simp)]
  case mapUpdate t m k x => rw [he m (by simp), he k (by simp), he x (by simp)]
  case insert t m k x => rw [he m (by simp), he k (by simp), he x (by simp)]
  case mapEntry t m k => rw [he m (by simp), he k (by simp)]
  case entryStore t m k x => rw [he m (by simp), he k (by simp), he x (by simp)]
  case call c => rw [hevs c.args fun x hx => he x (by simp [Call.operands, hx])]

end Go.AM
