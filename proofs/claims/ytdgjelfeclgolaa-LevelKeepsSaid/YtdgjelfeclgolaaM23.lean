/-
  A level at work, in plain Lean: what is computed.
-/
import Derived.Test.YtdgjelfeclgolaaF14
import Derived.Test.YtdgjelfeclgolaaT4
namespace Go.Proofs.Ytdgjelfeclgolaa
open Go Go.AM
set_option linter.unusedVariables false
set_option linter.unusedSimpArgs false

def zeroB : TBound := ⟨0, 0, 0⟩
def zeroD : TDemand := ⟨0, 0⟩
def zeroLv : TLevel := ⟨⟨#[]⟩, 0, 0, 0, 0, 0, 0, 0, 0, 0⟩
def zeroS : TState := ⟨zeroLv, false, 0, zeroB, zeroD, zeroF, []⟩

def noT : List TTicket := []
def sea (t : TTicket) : Int := min (max t.seats 0) 16
def runsL (l : List TTicket) : Int := (l.map sea).sum
theorem runsL_take (l : List TTicket) (i : Nat) : 0 ≤ runsL (l.take i) ∧ runsL (l.take i) ≤ 16 * i := by
  have h : ∀ m : List TTicket, 0 ≤ runsL m ∧ runsL m ≤ 16 * m.length := by
    intro m
    induction m with
    | nil => simp [runsL]
    | cons a m ih =>
      simp only [runsL, List.map_cons, List.sum_cons, List.length_cons] at ih ⊢
      have : 0 ≤ sea a ∧ sea a ≤ 16 := by unfold sea; omega
      omega
  have h1 := h (l.take i)
  rw [List.length_take] at h1
  omega
theorem runsL_le (l : List TTicket) : 0 ≤ runsL l ∧ runsL l ≤ 16 * l.length := by
  have := runsL_take l l.length
  rwa [List.take_length] at this
theorem runsL_snoc {l : List TTicket} {i : Nat} {x : TTicket} (h : l[i]? = some x) : runsL (l.take (i + 1)) = runsL (l.take i) + sea x := by
  rw [List.take_add_one, h]
  simp [runsL]

def fits (s : TState) (w : Int) : Int × Bool :=
  if s.level.kind = 1 then (wid w, true) else if s.limit < 1 then (0, false) else if s.running.length = 0 then (min (wid w) s.limit, true) else if runsL s.running ≤ s.limit - wid w then (wid w, true) else (0, false)
def wants (s : TState) : Int := runsL s.running + fseats s.fair
def seated (t : TTicket) (n : Int) : TTicket := ⟨t.iD, t.width, n, t.since, t.until_⟩
def withRun (s : TState) (r : List TTicket) : TState := ⟨s.level, s.quiet, s.limit, s.bound, s.demand, s.fair, r⟩
def withFair (s : TState) (f : TFair) : TState := ⟨s.level, s.quiet, s.limit, s.bound, s.demand, f, s.running⟩
def lrun (s : TState) (t : TTicket) : TState × TTicket × Bool :=
  if (fits s t.width).2 = true then (withRun s (s.running ++ [seated t (fits s t.width).1]), seated t (fits s t.width).1, true) else (s, t, false)
def lopen (l : TLevel) : TState := ⟨l, false, 0, zeroB, zeroD, if l.kind = 3 then (fnew l.queues l.guess l.length).1 else zeroF, noT⟩
def larrive (s : TState) (t : TTicket) (hand : List Int) : TState × Int :=
  if s.quiet = true then (zeroS, 9) else
  if s.level.kind = 3 then (if (fjoin s.fair hand (seated t 0)).2.2 = 0 then (withFair s (fjoin s.fair hand (seated t 0)).1, 0) else (zeroS, (fjoin s.fair hand (seated t 0)).2.2)) else
  if s.level.kind ≠ 1 ∧ 0 < waiting s.fair then (zeroS, 7) else
  if (fits s t.width).2 = true then (withRun s (s.running ++ [seated t (fits s t.width).1]), 0) else (zeroS, 7)
def ldispN : Nat → TState → List TTicket → TState × List TTicket
  | 0, s, out => (s, out)
  | f + 1, s, out => if (ftake s.fair).2.2 = true ∧ (fits s (ftake s.fair).2.1.width).2 = true then
      ldispN f (withFair (withRun s (s.running ++ [seated (ftake s.fair).2.1 (fits s (ftake s.fair).2.1.width).1])) (ftake s.fair).1) (out ++ [seated (ftake s.fair).2.1 (fits s (ftake s.fair).2.1.width).1]) else (s, out)
def tot (f : TFair) : Nat := (f.lanes.map fun l => l.wait.length).sum
def ldispatch (s : TState) : TState × List TTicket := ldispN (tot s.fair) s []
def ldone (s : TState) (id : Int) : TState × TTicket × Int :=
  if idx (fun t => t.iD == id) s.running < 0 then (zeroS, zeroT, 6) else
    (withRun s (s.running.eraseIdx (idx (fun t => t.iD == id) s.running).toNat), s.running.getD (idx (fun t => t.iD == id) s.running).toNat zeroT, 0)
def ldrop (s : TState) (id : Int) : TState × TTicket × Int :=
  if (fdrop s.fair id).2.2 = true then (withFair s (fdrop s.fair id).1, (fdrop s.fair id).2.1, 0) else (zeroS, zeroT, 6)
def lateL (f : TFair) (now : Int) : List TTicket := f.lanes.flatMap fun l => late l now
def keepL (now : Int) (l : TLane) : TLane := ⟨l.start, l.wait.filter fun t => !decide (t.until_ ≤ now)⟩
def lateF (f : TFair) (now : Int) : TFair := ⟨f.r, f.guess, f.length, f.open_, f.lanes.map (keepL now)⟩
def llate (s : TState) (now : Int) : TState × List TTicket :=
  (withFair s (if lateL s.fair now = [] then s.fair else ftrim (lateF s.fair now)), ss (·.iD) (lateL s.fair now))
def lturn (s : TState) (l : TLevel) (q : Bool) : TState :=
  ⟨l, q, s.limit, s.bound, s.demand, if l.kind = 3 ∧ q = false ∧ (shape s.fair l.queues l.guess l.length).2 = 0 then (shape s.fair l.queues l.guess l.length).1 else shut s.fair, s.running⟩
def lempty (s : TState) : Bool := decide (waiting s.fair = 0) && decide (s.running.length = 0)

/-- What may be asked of a state: not too much. -/
structure okS (n m r : Nat) (s : TState) : Prop where
  f : okF n m s.fair
  r : s.running.length ≤ r

end Go.Proofs.Ytdgjelfeclgolaa
