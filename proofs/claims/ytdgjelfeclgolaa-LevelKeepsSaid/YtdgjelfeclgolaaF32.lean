/-
  A level: Dispatch, Done; walked.
-/
import Derived.Test.YtdgjelfeclgolaaF31
namespace Go.Proofs.Ytdgjelfeclgolaa
open Go Go.AM
set_option maxHeartbeats 8000000
set_option maxRecDepth 8000
set_option linter.unusedSimpArgs false
set_option linter.unusedVariables false

theorem tot_trimN (o : Int) (l : List TLane) : ∀ n, ((l.take (trimN o l n)).map fun x : TLane => x.wait.length).sum = ((l.take n).map fun x : TLane => x.wait.length).sum
  | 0 => rfl
  | n + 1 => by
    rw [trimN]
    split
    · rename_i h
      rw [tot_trimN o l n]
      by_cases hn : n < l.length
      · obtain ⟨x, hx⟩ := some_of_lt hn
        rw [getD_of hx] at h
        rw [List.take_add_one, hx]
        simp [h.2]
      · rw [List.take_of_length_le (by omega), List.take_of_length_le (by omega)]
    · rfl
theorem tot_trim (f : TFair) : tot (ftrim f) = tot f := by
  unfold tot ftrim
  rw [tot_trimN, List.take_length]
theorem sum_set : ∀ {l : List TLane} {k : Nat} {x A : TLane}, l[k]? = some x → ((l.set k A).map fun x : TLane => x.wait.length).sum + x.wait.length = (l.map fun x : TLane => x.wait.length).sum + A.wait.length
  | a :: l, 0, x, A, h => by
    simp only [List.getElem?_cons_zero, Option.some.injEq] at h
    subst h
    simp only [List.set_cons_zero, List.map_cons, List.sum_cons]; omega
  | a :: l, k + 1, x, A, h => by
    rw [List.getElem?_cons_succ] at h
    have := sum_set (A := A) h
    simp only [List.set_cons_succ, List.map_cons, List.sum_cons]; omega
theorem tot_take {f : TFair} (h : (ftake f).2.2 = true) : tot (ftake f).1 + 1 = tot f := by
  rcases next_cases f with ⟨h1, _⟩ | ⟨k, l, t, w, h1, hx, h3, h4, _⟩
  · rw [ftake, if_pos (by omega)] at h
    cases h
  · have e2 : take l f.guess = (⟨add l.start (work t f.guess), w⟩, t, true) := by rw [take, h3]
    rw [ftake, h1, if_neg (by omega), h4, Int.toNat_natCast, tot_trim]
    have := sum_set (A := (take l f.guess).1) hx
    rw [e2, h3] at this
    unfold tot
    rw [e2]
    simp only [List.length_cons] at this ⊢
    omega
theorem tot_le {n m : Nat} {f : TFair} (h : okF n m f) : tot f ≤ n * m := by
  have key : ∀ l : List TLane, (∀ x, x ∈ l → x.wait.length ≤ m) → (l.map fun x : TLane => x.wait.length).sum ≤ l.length * m := by
    intro l
    induction l with
    | nil => intro _; simp
    | cons a l ih =>
      intro hl
      have h1 := hl a (List.mem_cons_self ..)
      have h2 := ih fun x hx => hl x (List.mem_cons_of_mem _ hx)
      rw [List.map_cons, List.sum_cons, List.length_cons, Nat.succ_mul]
      omega
  exact Nat.le_trans (key f.lanes fun x hx => (h.2 x hx).2) (Nat.mul_le_mul_right _ h.1)

abbrev stR (s : TState) (r : AVal) : List AVal := [.str s.level.name, .int .i64 s.level.kind, .int .i64 s.level.shares, .int .i64 s.level.lend, .int .i64 s.level.borrow, .int .i64 s.level.queues, .int .i64 s.level.hand, .int .i64 s.level.length, .int .i64 s.level.wait, .int .i64 s.level.guess,
  .bool s.quiet, .int .i64 s.limit, .int .i64 s.bound.nominal, .int .i64 s.bound.min, .int .i64 s.bound.max, .int .i64 s.demand.high, .int .i64 s.demand.smooth, .int .u64 s.fair.r, .int .i64 s.fair.guess, .int .i64 s.fair.length, .int .i64 s.fair.open_, .sl (rws s.fair.lanes) none, r]
abbrev zrow : List AVal := [.str ⟨#[]⟩, .int .i64 0, .int .i64 0, .int .i64 0, .int .i64 0, .int .i64 0, .int .i64 0, .int .i64 0, .int .i64 0, .int .i64 0, .bool false, .int .i64 0, .int .i64 0, .int .i64 0, .int .i64 0, .int .i64 0, .int .i64 0, .int .u64 0, .int .i64 0, .int .i64 0, .int .i64 0, .sl [] (some 0), .sl [] (some 0)]
abbrev stL (r : TState × List TTicket) : AVal := .tuple [.agg (Enc.enc r.1), .sl (rws r.2) none]

theorem ldispatch_ok (s : TState) (hf : okF 1000 1000 s.fair) (hr : s.running.length ≤ 900000) (hl : s.limit ≤ 9223372036854775807) : PCall Try.prog 74 [.agg (Enc.enc s)] (· = stL (ldispatch s)) := by
  have c0 := lcopied_ok s hf (by omega)
  obtain ⟨R, hR⟩ : ∃ R, ldispatch s = R := ⟨_, rfl⟩
  rw [hR]
  unfold ldispatch at hR
  have htot := tot_le hf
  refine PCall_intro (c := Try.f74.body.getD .skip) Try.func74 rfl (by decide +kernel) Zf (W_start ?_)
  simp only [Try.f74, go_sem]
  repeat' first
    | refine Z0 ?_
    | refine Zx ?_
    | refine Zw c0 ?_
    | (refine Ze ?_; clear hK K)
    | refine W_reg fun K hK => ?_
    | refine W_drwR rfl mixed (by decide +kernel) fun K hK => ?_
    | refine W_drw mixed (by decide +kernel) fun K hK => ?_
    | (refine Zb ?_ ?_ <;> intro hb <;> first | (simp (disch := omega) only [go_sem] at hb; done) | (simp (disch := omega) only [go_sem] at hb; try omega) | try omega)
    | (refine Zl ?_; intro bn hnil; (try simp (disch := omega) only [go_sem] at hnil); dsimp only [putT, List.set_cons_succ, List.set_cons_zero])
  (apply W_unbornAt 4 5; (case ht => exact rfl); (case e => exact sT); (case hn => exact nT))
  refine W_foldM (fun (a : Nat × TState × List TTicket) => [none, none, none, some .junk, some (.ref 7 a.2.2.length 0 a.2.2.length false a.2.2.length), some .junk, some .junk, some .junk, some .junk, some .junk, none, none, some .junk, some .junk, some .junk, some .junk, some .junk, some .junk, some .junk, some .junk, some .junk, some .junk, some .junk, some .junk, some .junk, some .junk, some .junk, some .junk, some .junk, some .junk, some .junk, some .junk, some .junk, some .junk, some .junk, some .junk, some .junk, some .junk, some .junk, some .junk, some .junk])
    (fun a => [(7, .arr 5 (rws a.2.2)), (4, .arr 5 (rws a.2.1.running)), (1, .arr 23 [zrow]), (0, .arr 23 [stR a.2.1 (.ref 4 a.2.1.running.length 0 a.2.1.running.length false a.2.1.running.length)])])
    (fun a => a.1 = tot a.2.1.fair ∧ okF 1000 1000 a.2.1.fair ∧ a.2.1.limit = s.limit ∧ a.2.1.running.length + a.1 ≤ 1900000 ∧ a.2.2.length + a.1 ≤ 1000000 ∧ ldispN a.1 a.2.1 a.2.2 = R) (fun a => a.1) (tot s.fair, s, []) ⟨rfl, hf, rfl, by simp only []; omega, by simp only [List.length_nil]; omega, hR⟩ (by exact weak_mk wkD wkH wkN wkM (by omega)) ?_
  clear hR c0
  rintro ⟨f, s', out⟩ ⟨k1, k2, k3, k4, k5, k6⟩
  simp only [] at k1 k2 k3 k4 k5 k6
  have c1 := ftake_ok s'.fair k2
  have b1 := okF_take k2
  have b2 := tot_take (f := s'.fair)
  have u1 : ∀ n t, fits s' (ftake s'.fair).2.1.width = (n, t) → (ftake s'.fair).2.2 = false ∨ t = false → ldispN f s' out = (s', out) := fun n t h1 h2 => by
    cases f with
    | zero => rfl
    | succ f =>
      rw [ldispN, if_neg]
      rintro ⟨q1, q2⟩
      rw [h1] at q2
      rcases h2 with h2 | h2
      · rw [h2] at q1; cases q1
      · rw [h2] at q2; cases q2
  have u2 : ∀ n, fits s' (ftake s'.fair).2.1.width = (n, true) → (ftake s'.fair).2.2 = true → 0 < f ∧ ldispN f s' out = ldispN (f - 1) (withFair (withRun s' (s'.running ++ [seated (ftake s'.fair).2.1 n])) (ftake s'.fair).1) (out ++ [seated (ftake s'.fair).2.1 n]) := fun n h1 h2 => by
    have := b2 h2
    obtain ⟨f, rfl⟩ : ∃ g, f = g + 1 := ⟨f - 1, by omega⟩
    refine ⟨Nat.succ_pos _, ?_⟩
    rw [ldispN, if_pos ⟨h2, by rw [h1]⟩, h1, Nat.add_sub_cancel]
  generalize ftake s'.fair = T at *
  obtain ⟨F, t, b⟩ := T
  simp only [fairV] at c1 b1 b2 u1 u2
  obtain ⟨n, fb, hfit⟩ : ∃ n b, fits s' t.width = (n, b) := ⟨_, _, rfl⟩
  simp only [msk_none, msk_some, msk_nil]
  cases b with
  | false =>
    have e := u1 n fb hfit (.inl rfl)
    rw [k6] at e
    subst e
    repeat' first
      | refine Z0 ?_
      | refine Zx ?_
      | refine Zc c1 ?_
      | (refine Ze ?_; clear hK K)
      | refine W_reg fun K hK => ?_
      | refine W_drwR rfl mixed (by decide +kernel) fun K hK => ?_
      | refine W_drw mixed (by decide +kernel) fun K hK => ?_
      | (refine Zb ?_ ?_ <;> intro hb <;> first | (simp (disch := omega) only [go_sem] at hb; done) | (simp (disch := omega) only [go_sem] at hb; try omega) | try omega)
      | (refine Zl ?_; intro bn hnil; (try simp (disch := omega) only [go_sem] at hnil); dsimp only [putT, List.set_cons_succ, List.set_cons_zero])
    all_goals exact Zr
  | true =>
    cases fb with
    | false =>
      have e := u1 n false hfit (.inr rfl)
      rw [k6] at e
      subst e
      have c2 := lrun_no s' t _ rfl (by omega) (by omega) n hfit 4
      repeat' first
        | refine Z0 ?_
        | refine Zx ?_
        | refine Zc c1 ?_
        | refine Zfc c2 ?_
        | (refine Ze ?_; clear hK K)
        | refine W_reg fun K hK => ?_
        | refine W_drwR rfl mixed (by decide +kernel) fun K hK => ?_
        | refine W_drw mixed (by decide +kernel) fun K hK => ?_
        | (refine Zb ?_ ?_ <;> intro hb <;> first | (simp (disch := omega) only [go_sem] at hb; done) | (simp (disch := omega) only [go_sem] at hb; try omega) | try omega)
        | (refine Zl ?_; intro bn hnil; (try simp (disch := omega) only [go_sem] at hnil); dsimp only [putT, List.set_cons_succ, List.set_cons_zero])
      all_goals exact Zr
    | true =>
      obtain ⟨e1, e2⟩ := u2 n hfit rfl
      rw [k6] at e2
      have c2 := lrun_yes s' t _ rfl (by omega) (by omega) n hfit 4
      have r1 := rws_snoc out (seated t n)
      have r2 : (s'.running ++ [seated t n]).length = s'.running.length + 1 := by simp
      have r3 : (out ++ [seated t n]).length = out.length + 1 := by simp
      have b3 := b2 rfl
      simp only [enc_TTicket, seated] at r1
      have zz1 := r1
      repeat' first
        | refine Z1 ?_
        | refine Zx ?_
        | refine Zc c1 ?_
        | refine Zfc c2 ?_
        | (refine Ze ?_; clear hK K)
        | refine W_reg fun K hK => ?_
        | refine W_drwR rfl mixed (by decide +kernel) fun K hK => ?_
        | refine W_drw mixed (by decide +kernel) fun K hK => ?_
        | (refine Zb ?_ ?_ <;> intro hb <;> first | (simp (disch := omega) only [go_sem, zz1] at hb; done) | (simp (disch := omega) only [go_sem, zz1] at hb; try omega) | try omega)
        | (refine Zl ?_; intro bn hnil; (try simp (disch := omega) only [go_sem, zz1] at hnil); dsimp only [putT, List.set_cons_succ, List.set_cons_zero])
      all_goals exact L_next ⟨(f - 1, withFair (withRun s' (s'.running ++ [seated t n])) F, out ++ [seated t n]), by simp only []; omega, ⟨by simp only [withFair]; omega, b1, k3, by simp only [withFair, withRun, r2]; omega, by simp only [r3]; omega, e2.symm⟩, by simp only [withFair, withRun, r2, r3]; exact (by exact weak_mk wkD wkH wkN wkM (by omega))⟩

theorem delete0_ok (l : List TTicket) (i : Nat) (hi : i < l.length) (hl : l.length ≤ 4294967296) :
    HCall Try.prog 109 [.ref 0 l.length 0 l.length false l.length, .int .i64 i, .int .i64 ((i : Int) + 1)] [(0, .arr 5 (rws l))] 1 (fun r h _ => r = .ref 0 l.length 0 (l.length - 1) false l.length ∧ h = [(0, .arr 5 (rws (l.eraseIdx i ++ [zeroT])))]) := by
  have t1 : ((i : Int) + 1).toNat = i + 1 := by omega
  have a1 : List.take (l.length - (i + 1)) (List.drop (i + 1) (rws l)) = rws (l.drop (i + 1)) := by rw [rws_drop, rws_take, List.take_of_length_le (by simp)]
  have d1 : (List.drop (i + 1) l).length = l.length - (i + 1) := List.length_drop
  have d2 : i + (l.length - (i + 1)) = l.length - 1 := by omega
  have d3 : l.length - (l.length - 1) = 1 := by omega
  have d4 : l.length - 1 + 1 = l.length := by omega
  obtain ⟨L2, hL2⟩ : ∃ L2, L2 = l.take i ++ l.drop (i + 1) ++ l.drop (l.length - 1) := ⟨_, rfl⟩
  have r1 : List.take i (rws l) ++ rws (List.drop (i + 1) l) ++ List.drop (l.length - 1) (rws l) = rws L2 := by rw [rws_take, rws_drop, rws_append, rws_append, hL2]
  have e0 : l.eraseIdx i = l.take i ++ l.drop (i + 1) := List.eraseIdx_eq_take_drop_succ l i
  have hlen2 : L2.length = l.length := by rw [hL2]; simp; omega
  have r2 : List.take (l.length - 1) (rws L2) ++ [Enc.enc zeroT] ++ List.drop l.length (rws L2) = rws (l.eraseIdx i ++ [zeroT]) := by
    have h1 : List.take (l.length - 1) L2 = l.eraseIdx i := by
      rw [hL2, e0, List.take_left' (by simp; omega)]
    rw [rws_take, rws_drop, h1, rws_snoc, rws_append, List.drop_of_length_le (by omega), List.append_nil]
  simp only [enc_TTicket, zeroT] at r2
  generalize hN : l.length = N at *
  refine HCall_intro (c := Try.f109.body.getD .skip) Try.func109 rfl (by decide +kernel) (W_start ?_)
  simp only [Try.f109, go_sem]
  have zz1 := t1
  have zz2 := a1
  have zz3 := d1
  have zz4 := d2
  have zz5 := d3
  have zz6 := d4
  have zz7 := r1
  have zz8 := r2
  repeat' first
    | refine Z8 ?_
    | refine Zx ?_
    | (refine Ze ?_; clear hK K)
    | refine W_reg fun K hK => ?_
    | refine W_drwR rfl mixed (by decide +kernel) fun K hK => ?_
    | refine W_drw mixed (by decide +kernel) fun K hK => ?_
    | (refine Zb ?_ ?_ <;> intro hb <;> first | (simp (disch := omega) only [go_sem, zz1, zz2, zz3, zz4, zz5, zz6, zz7, zz8] at hb; done) | (simp (disch := omega) only [go_sem, zz1, zz2, zz3, zz4, zz5, zz6, zz7, zz8] at hb; try omega) | try omega)
    | (refine Zl ?_; intro bn hnil; (try simp (disch := omega) only [go_sem, zz1, zz2, zz3, zz4, zz5, zz6, zz7, zz8] at hnil); dsimp only [putT, List.set_cons_succ, List.set_cons_zero])
    | ((with_reducible apply AO_clearE); (case hg => exact gT); (case ho => exact rfl); (case hcb => exact rfl); (case hct => exact rfl); (case hca => exact rfl); (case hx => exact rfl); (case hl => simp only [go_sem]; exact rfl); (case ht => simp only [go_sem]; exact rfl); (case he => simp only [go_sem]; exact rfl); (case hz => simp only [go_sem]; exact rfl); (case hzl => exact rfl); (case hsz => first | omega | (simp (disch := omega) only [go_sem, zz1, zz2, zz3, zz4, zz5, zz6, zz7, zz8]; omega) | simp (disch := omega) only [go_sem, zz1, zz2, zz3, zz4, zz5, zz6, zz7, zz8]); (case hb => omega); (case hlen => omega); (case hd => exact rfl); (case hh => simp (disch := omega) only [go_sem, zz1, zz2, zz3, zz4, zz5, zz6, zz7, zz8]; exact rfl); (case hn => exact nT))
  exact Zrf
theorem delete_F (l : List TTicket) (i N : Nat) (hN : l.length = N) (hi : i < N) (hl : N ≤ 4294967296) (A : Nat) :
    FCall Try.prog 109 [.ref A N 0 N false N, .int .i64 i, .int .i64 ((i : Int) + 1)] [(A, .arr 5 (rws l))] (.ref A N 0 (N - 1) false N) [(A, .arr 5 (rws (l.eraseIdx i ++ [zeroT])))] := by
  subst hN
  exact FCall.arr (delete0_ok l i hi hl) A (by simp [lfA_leaf, lf_ref, lf_int]) (lfA_leaf ((lf_ref _ _ _ _ _ _ _).2 (by simp))) rfl rfl

theorem closureD_ok (x : TTicket) (id : Int) : PCall Try.prog 108 [.agg (Enc.enc x), .fp [.int .i64 id]] (· = .bool (x.iD == id)) := by
  refine PCall_intro (c := Try.f108.body.getD .skip) Try.func108 rfl (by decide +kernel) Zf (W_start ?_)
  simp only [Try.f108, go_sem]
  repeat' first
    | refine Z0 ?_
    | refine Zx ?_
    | (refine Ze ?_; clear hK K)
    | refine W_reg fun K hK => ?_
    | refine W_drwR rfl mixed (by decide +kernel) fun K hK => ?_
    | refine W_drw mixed (by decide +kernel) fun K hK => ?_
    | (refine Zb ?_ ?_ <;> intro hb <;> first | (simp (disch := omega) only [go_sem] at hb; done) | (simp (disch := omega) only [go_sem] at hb; try omega) | try omega)
    | (refine Zl ?_; intro bn hnil; (try simp (disch := omega) only [go_sem] at hnil); dsimp only [putT, List.set_cons_succ, List.set_cons_zero])
  exact Zr

theorem ldone_ok (s : TState) (id : Int) (hf : okF 1000 1000 s.fair) (hr : s.running.length ≤ 2000000) : PCall Try.prog 76 [.agg (Enc.enc s), .int .i64 id] (· = stT (ldone s id)) := by
  have c0 := lcopied_ok s hf hr
  have c1 := indexFunc_ok s.running 108 (.fp [.int .i64 id]) (fun t => t.iD == id) (by unfold maxLen; omega) (by simp [Fz.fp_iff, Fz.int_iff]) fun x _ => closureD_ok x id
  unfold ldone
  rcases idx_cases (fun t : TTicket => t.iD == id) s.running with ⟨i, t, e1, hi, ht, _⟩ | ⟨e1, _⟩
  · rw [e1] at c1 ⊢
    rw [if_neg (by omega), Int.toNat_natCast]
    have e2 : s.running.getD i zeroT = t := by rw [List.getD_eq_getElem?_getD, ht]; rfl
    rw [e2]
    have c2 := delete_F s.running i _ rfl hi (by omega) 20
    have f1 : (rws (s.running.eraseIdx i ++ [zeroT])).length = s.running.length := by rw [rws_length, List.length_append, cut_len hi]; simp; omega
    have f2 : List.take (s.running.length - 1) (rws (s.running.eraseIdx i ++ [zeroT])) = rws (s.running.eraseIdx i) := by rw [rws_take, List.take_left' (cut_len hi)]
    refine PCall_intro (c := Try.f76.body.getD .skip) Try.func76 rfl (by decide +kernel) Zf (W_start ?_)
    simp only [Try.f76, go_sem]
    have zz1 := rws_get ht
    repeat' first
      | refine Z1 ?_
      | refine Zx ?_
      | refine Zw c0 ?_
      | refine Zn c1 ?_
      | refine Zfc c2 ?_
      | (refine Ze ?_; clear hK K)
      | refine W_reg fun K hK => ?_
      | refine W_drwR rfl mixed (by decide +kernel) fun K hK => ?_
      | refine W_drw mixed (by decide +kernel) fun K hK => ?_
      | (refine Zb ?_ ?_ <;> intro hb <;> first | (simp (disch := omega) only [go_sem, zz1] at hb; done) | (simp (disch := omega) only [go_sem, zz1] at hb; try omega) | try omega)
      | (refine Zl ?_; intro bn hnil; (try simp (disch := omega) only [go_sem, zz1] at hnil); dsimp only [putT, List.set_cons_succ, List.set_cons_zero])
    exact Zr
  · rw [e1] at c1 ⊢
    rw [if_pos (by omega)]
    refine PCall_intro (c := Try.f76.body.getD .skip) Try.func76 rfl (by decide +kernel) Zf (W_start ?_)
    simp only [Try.f76, go_sem]
    repeat' first
      | refine Z0 ?_
      | refine Zx ?_
      | refine Zn c1 ?_
      | (refine Ze ?_; clear hK K)
      | refine W_reg fun K hK => ?_
      | refine W_drwR rfl mixed (by decide +kernel) fun K hK => ?_
      | refine W_drw mixed (by decide +kernel) fun K hK => ?_
      | (refine Zb ?_ ?_ <;> intro hb <;> first | (simp (disch := omega) only [go_sem] at hb; done) | (simp (disch := omega) only [go_sem] at hb; try omega) | try omega)
      | (refine Zl ?_; intro bn hnil; (try simp (disch := omega) only [go_sem] at hnil); dsimp only [putT, List.set_cons_succ, List.set_cons_zero])
    all_goals exact Zr

end Go.Proofs.Ytdgjelfeclgolaa
