/- The machine of chapter 12: pairs of an instruction and a place, depth first, with a map. No program here. -/
import Derived.Test.YteiggbbljgkloaaQHas
namespace Go.Proofs.Yteiggbbljgkloaa.Mach

/-- An instruction; a program. -/
structure Ins where
  op : Int
  x : Int
  y : Int
  arg : Int
  rng : List (Int × Int)
structure Prg where
  insts : List Ins
  start : Int
  caps : Int

def isAs (a : Int) : Bool := a == 1 || a == 2 || a == 4 || a == 8 || a == 16 || a == 32
/-- May an instruction stand in a program of n, with so many captures? -/
def mayB (i : Ins) (n caps : Int) : Bool :=
  if i.op = 1 then decide (0 ≤ i.x ∧ i.x < n ∧ i.y = 0 ∧ i.arg = 0 ∧ i.rng ≠ []) && rightB i.rng
  else if i.op = 2 then decide (0 ≤ i.x ∧ i.x < n ∧ 0 ≤ i.y ∧ i.y < n ∧ i.arg = 0 ∧ i.rng = [])
  else if i.op = 3 then decide (0 ≤ i.x ∧ i.x < n ∧ i.y = 0 ∧ 0 ≤ i.arg ∧ i.arg < caps ∧ i.rng = [])
  else if i.op = 4 then decide (0 ≤ i.x ∧ i.x < n ∧ i.y = 0 ∧ i.rng = []) && isAs i.arg
  else if i.op = 5 then decide (i.x = 0 ∧ i.y = 0 ∧ 0 ≤ i.arg ∧ i.arg < 100 ∧ i.rng = [])
  else if i.op = 6 then decide (i.x = 0 ∧ i.y = 0 ∧ i.arg = 0 ∧ i.rng = [])
  else if i.op = 7 then decide (0 ≤ i.x ∧ i.x < n ∧ i.y = 0 ∧ i.arg = 0 ∧ i.rng = [])
  else false
def headB (n start caps : Int) : Bool := decide (1 ≤ n ∧ n ≤ 20000 ∧ 0 ≤ start ∧ start < n ∧ 2 ≤ caps ∧ caps ≤ 1002 ∧ caps % 2 = 0)
def checkB (p : Prg) : Bool := headB p.insts.length p.start p.caps && p.insts.all fun i => mayB i p.insts.length p.caps

/-- The number that Check answers. -/
def chkE (p : Prg) : Int := if checkB p then 0 else 90
/-- Which of the six assertions hold at a place; the sum of their bits. -/
def hb (t : List Int) (k : Nat) : Nat → Bool
  | 0 => decide (k = 0)
  | 1 => decide (k = t.length)
  | 2 => decide (k = 0) || t.getD (k - 1) 0 == 10
  | 3 => decide (k = t.length) || t.getD k 0 == 10
  | 4 => (!decide (k = 0) && word (t.getD (k - 1) 0)) != (!decide (k = t.length) && word (t.getD k 0))
  | _ => !((!decide (k = 0) && word (t.getD (k - 1) 0)) != (!decide (k = t.length) && word (t.getD k 0)))
def sumB (f : Nat → Bool) : Nat → Nat
  | 0 => 0
  | j + 1 => sumB f j + (if f j then 2 ^ j else 0)
theorem sumB_lt (f : Nat → Bool) : ∀ j, sumB f j < 2 ^ j
  | 0 => by simp [sumB]
  | j + 1 => by have := sumB_lt f j; rw [sumB, Nat.pow_succ]; split <;> omega
def atBits (t : List Int) (k : Nat) : Int := (sumB (hb t k) 6 : Nat)
theorem atBits_bd (t : List Int) (k : Nat) : 0 ≤ atBits t k ∧ atBits t k < 64 := by
  have := sumB_lt (hb t k) 6
  unfold atBits; omega
/-- Does one of the six assertions hold there? -/
def asB (t : List Int) (k : Nat) (a : Int) : Bool := decide (atBits t k / a % 2 = 1)

/-- What is still to be done: a pair; a capture becomes again what it was. -/
inductive Job where
  | pair (i k : Nat)
  | back (c : Nat) (old : Int)
/-- The machine: the top of what is to be done stands first; the map by instruction * places + place. -/
structure MS where
  todo : List Job
  met : List Bool
  caps : List Int
  steps : Nat
  fin : Option Int

section
variable (p : Prg) (t : List Int) (at_ : Nat)
def places : Nat := t.length - at_ + 1
def bitOf (i k : Nat) : Nat := i * places t at_ + (k - at_)
/-- What an instruction at a place puts on top. -/
def eff (x : Ins) (k : Nat) (s : MS) : MS :=
  if x.op = 1 then (if k < t.length ∧ memB x.rng (t.getD k 0) = true then { s with todo := .pair x.x.toNat (k + 1) :: s.todo } else s)
  else if x.op = 2 then { s with todo := .pair x.x.toNat k :: .pair x.y.toNat k :: s.todo }
  else if x.op = 3 then { s with todo := .pair x.x.toNat k :: .back x.arg.toNat (s.caps.getD x.arg.toNat 0) :: s.todo, caps := s.caps.set x.arg.toNat k }
  else if x.op = 4 then (if asB t k x.arg then { s with todo := .pair x.x.toNat k :: s.todo } else s)
  else if x.op = 5 then { s with fin := some x.arg }
  else if x.op = 7 then { s with todo := .pair x.x.toNat k :: s.todo }
  else s
def mstep (s : MS) : MS :=
  match s.fin, s.todo with
  | some _, _ => s
  | none, [] => s
  | none, .back c old :: r => { s with todo := r, caps := s.caps.set c old }
  | none, .pair i k :: r =>
    if s.met.getD (bitOf t at_ i k) true then { s with todo := r }
    else match p.insts[i]? with
      | none => { s with todo := r }
      | some x => eff t x k { s with todo := r, met := s.met.set (bitOf t at_ i k) true, steps := s.steps + 1 }
def halted (s : MS) : Prop := s.fin ≠ none ∨ s.todo = []
def unmet (s : MS) : Nat := s.met.count false
/-- How many steps may come. -/
def meas (s : MS) : Nat := 3 * unmet s + s.todo.length + (if s.fin = none then 1 else 0)
def iter : Nat → MS → MS
  | 0, s => s
  | n + 1, s => iter n (mstep p t at_ s)
theorem iter_succ' (n : Nat) (s : MS) : iter p t at_ (n + 1) s = mstep p t at_ (iter p t at_ n s) := by
  induction n generalizing s with
  | zero => rfl
  | succ n ih => rw [iter, ih]; rfl
theorem halt_stay {s : MS} (h : halted s) : mstep p t at_ s = s := by
  unfold mstep
  rcases h with h | h
  · split
    · rfl
    · exact absurd ‹_› h
    · exact absurd ‹_› h
    · exact absurd ‹_› h
  · rw [h]
    split <;> first | rfl | (rename_i h2; cases h2)
theorem halt_iter {s : MS} (h : halted s) (n : Nat) : iter p t at_ n s = s := by
  induction n with
  | zero => rfl
  | succ n ih => rw [iter, halt_stay p t at_ h, ih]
theorem count_set {l : List Bool} {q : Nat} (h : l.getD q true = false) : (l.set q true).count false + 1 = l.count false := by
  induction l generalizing q with
  | nil => simp at h
  | cons b l ih =>
    cases q with
    | zero => simp at h; subst h; simp
    | succ q =>
      have := ih (q := q) (by simpa using h)
      rw [List.set_cons_succ, List.count_cons, List.count_cons]
      omega
theorem eff_meas (x : Ins) (k : Nat) (s : MS) (h : s.fin = none) : meas (eff t x k s) ≤ meas s + 2 ∧ unmet (eff t x k s) = unmet s := by
  unfold eff
  refine ⟨?_, ?_⟩
  · repeat' split
    all_goals simp only [meas, unmet, h, List.length_cons, if_true]
    all_goals first | omega | (simp only [reduceCtorEq, if_false]; omega)
  · repeat' split
    all_goals rfl
theorem step_less {s : MS} (h : ¬ halted s) : meas (mstep p t at_ s) < meas s := by
  unfold halted at h
  obtain ⟨todo, met, caps, steps, fin⟩ := s
  simp only [not_or, ne_eq, Classical.not_not] at h
  obtain ⟨rfl, h2⟩ := h
  unfold mstep
  match todo, h2 with
  | .back c old :: r, _ => simp [meas, unmet]
  | .pair i k :: r, _ =>
    simp only []
    split
    · simp [meas, unmet]
    · rename_i hm
      have hm : met.getD (bitOf t at_ i k) true = false := by simpa using hm
      split
      · simp [meas, unmet]
      · have hc := count_set hm
        refine Nat.lt_of_le_of_lt (eff_meas t _ k _ rfl).1 ?_
        simp only [meas, unmet, if_true, List.length_cons]
        omega
theorem iter_halts (s : MS) : ∀ n, meas s ≤ n → halted (iter p t at_ n s) := by
  intro n
  induction n generalizing s with
  | zero =>
    intro h
    unfold meas at h
    refine .inr ?_
    have : s.todo.length = 0 := by omega
    exact List.eq_nil_of_length_eq_zero this
  | succ n ih =>
    intro h
    by_cases hh : halted s
    · rw [halt_iter p t at_ hh]; exact hh
    · rw [iter]
      exact ih _ (by have := step_less p t at_ hh; omega)
/-- Where the machine comes to. -/
def final (s : MS) : MS := iter p t at_ (meas s) s
theorem final_of {s : MS} {n : Nat} (h : halted (iter p t at_ n s)) : iter p t at_ n s = final p t at_ s := by
  have h2 : halted (iter p t at_ (meas s) s) := iter_halts p t at_ s _ (Nat.le_refl _)
  have add : ∀ a b s, iter p t at_ (a + b) s = iter p t at_ b (iter p t at_ a s) := fun a b s => by
    induction a generalizing s with
    | zero => rw [Nat.zero_add]; rfl
    | succ a ih => rw [Nat.succ_add, iter, ih]; rfl
  unfold final
  rcases Nat.le_total n (meas s) with g | g
  · rw [show meas s = n + (meas s - n) from by omega, add, halt_iter p t at_ h]
  · rw [show n = meas s + (n - meas s) from by omega, add, halt_iter p t at_ h2]
/-- A begin: the pair of the start, no capture. -/
def begin_ (b : Nat) (met : List Bool) (steps : Nat) : MS := ⟨[.pair p.start.toNat b], met, List.replicate p.caps.toNat (-1), steps, none⟩
/-- What is found from a place on: captures and which; none: nothing; and the steps. -/
def search (anch : Bool) : Nat → Nat → List Bool → Nat → Option (List Int × Int) × Nat
  | 0, _, _, steps => (none, steps)
  | n + 1, b, met, steps =>
    let f := final p t at_ (begin_ p b met steps)
    match f.fin with
    | some w => (some (f.caps, w), f.steps)
    | none => if anch then (none, f.steps) else search anch n (b + 1) f.met f.steps
end
/-- What Run answers: the error; else what is found. -/
def runR (p : Prg) (t : List Int) (a : Int) (anch : Bool) : Int × Option (List Int × Int) × Nat :=
  if 4194304 < t.length then (2, none, 0)
  else if checkB p = false then (90, none, 0)
  else if a < 0 ∨ (t.length : Int) < a then (1, none, 0)
  else if 16777216 < p.insts.length * (t.length - a.toNat + 1) then (3, none, 0)
  else (0, search p t a.toNat anch (t.length + 1 - a.toNat) a.toNat (List.replicate (p.insts.length * places t a.toNat) false) 0)
end Go.Proofs.Yteiggbbljgkloaa.Mach
