/- Is a rune in one of the ranges? No program here. -/
import Derived.Test.YtjeljlgjkjeloaaQFlat
namespace Go.Proofs.Ytjeljlgjkjeloaa

/-- Is a rune in one of the ranges? -/
def memB (l : List (Int × Int)) (r : Int) : Bool := l.any fun x => decide (x.1 ≤ r ∧ r ≤ x.2)
end Go.Proofs.Ytjeljlgjkjeloaa
/- The machine of chapter 12: pairs of an instruction and a place, depth first, with a map. No program here. -/
namespace Go.Proofs.Ytjeljlgjkjeloaa.Mach

/-- An instruction; a program. -/
structure Ins where
  op : Int
  x : Int
  y : Int
  arg : Int
  rng : List (Int × Int)
structure Prg where
  insts : List Ins
  start : Int
  caps : Int

def isAs (a : Int) : Bool := a == 1 || a == 2 || a == 4 || a == 8 || a == 16 || a == 32
/-- May an instruction stand in a program of n, with so many captures? -/
def mayB (i : Ins) (n caps : Int) : Bool :=
  if i.op = 1 then decide (0 ≤ i.x ∧ i.x < n ∧ i.y = 0 ∧ i.arg = 0 ∧ i.rng ≠ []) && rightB i.rng
  else if i.op = 2 then decide (0 ≤ i.x ∧ i.x < n ∧ 0 ≤ i.y ∧ i.y < n ∧ i.arg = 0 ∧ i.rng = [])
  else if i.op = 3 then decide (0 ≤ i.x ∧ i.x < n ∧ i.y = 0 ∧ 0 ≤ i.arg ∧ i.arg < caps ∧ i.rng = [])
  else if i.op = 4 then decide (0 ≤ i.x ∧ i.x < n ∧ i.y = 0 ∧ i.rng = []) && isAs i.arg
  else if i.op = 5 then decide (i.x = 0 ∧ i.y = 0 ∧ 0 ≤ i.arg ∧ i.arg < 100 ∧ i.rng = [])
  else if i.op = 6 then decide (i.x = 0 ∧ i.y = 0 ∧ i.arg = 0 ∧ i.rng = [])
  else if i.op = 7 then decide (0 ≤ i.x ∧ i.x < n ∧ i.y = 0 ∧ i.arg = 0 ∧ i.rng = [])
  else false
def headB (n start caps : Int) : Bool := decide (1 ≤ n ∧ n ≤ 20000 ∧ 0 ≤ start ∧ start < n ∧ 2 ≤ caps ∧ caps ≤ 1002 ∧ caps % 2 = 0)
def checkB (p : Prg) : Bool := headB p.insts.length p.start p.caps && p.insts.all fun i => mayB i p.insts.length p.caps

/-- The number that Check answers. -/
def chkE (p : Prg) : Int := if checkB p then 0 else 90
/-- Which of the six assertions hold at a place; the sum of their bits. -/
def hb (t : List Int) (k : Nat) : Nat → Bool
  | 0 => decide (k = 0)
  | 1 => decide (k = t.length)
  | 2 => decide (k = 0) || t.getD (k - 1) 0 == 10
  | 3 => decide (k = t.length) || t.getD k 0 == 10
  | 4 => (!decide (k = 0) && word (t.getD (k - 1) 0)) != (!decide (k = t.length) && word (t.getD k 0))
  | _ => !((!decide (k = 0) && word (t.getD (k - 1) 0)) != (!decide (k = t.length) && word (t.getD k 0)))
def sumB (f : Nat → Bool) : Nat → Nat
  | 0 => 0
  | j + 1 => sumB f j + (if f j then 2 ^ j else 0)
theorem sumB_lt (f : Nat → Bool) : ∀ j, sumB f j < 2 ^ j
  | 0 => by simp [sumB]
  | j + 1 => by have := sumB_lt f j; rw [sumB, Nat.pow_succ]; split <;> omega
def atBits (t : List Int) (k : Nat) : Int := (sumB (hb t k) 6 : Nat)
theorem atBits_bd (t : List Int) (k : Nat) : 0 ≤ atBits t k ∧ atBits t k < 64 := by
  have := sumB_lt (hb t k) 6
  unfold atBits; omega
/-- Does one of the six assertions hold there? -/
def asB (t : List Int) (k : Nat) (a : Int) : Bool := decide (atBits t k / a % 2 = 1)

/-- What is still to be done: a pair; a capture becomes again what it was. -/
inductive Job where
  | pair (i k : Nat)
  | back (c : Nat) (old : Int)
/-- The machine: the top of what is to be done stands first; the map by instruction * places + place. -/
structure MS where
  todo : List Job
  met : List Bool
  caps : List Int
  steps : Nat
  fin : Option Int

section
variable (p : Prg) (t : List Int) (at_ : Nat)
def places : Nat := t.length - at_ + 1
def bitOf (i k : Nat) : Nat := i * places t at_ + (k - at_)
/-- What an instruction at a place puts on top. -/
def eff (x : Ins) (k : Nat) (s : MS) : MS :=
  if x.op = 1 then (if k < t.length ∧ memB x.rng (t.getD k 0) = true then { s with todo := .pair x.x.toNat (k + 1) :: s.todo } else s)
  else if x.op = 2 then { s with todo := .pair x.x.toNat k :: .pair x.y.toNat k :: s.todo }
  else if x.op = 3 then { s with todo := .pair x.x.toNat k :: .back x.arg.toNat (s.caps.getD x.arg.toNat 0) :: s.todo, caps := s.caps.set x.arg.toNat k }
  else if x.op = 4 then (if asB t k x.arg then { s with todo := .pair x.x.toNat k :: s.todo } else s)
  else if x.op = 5 then { s with fin := some x.arg }
  else if x.op = 7 then { s with todo := .pair x.x.toNat k :: s.todo }
  else s
def mstep (s : MS) : MS :=
  match s.fin, s.todo with
  | some _, _ => s
  | none, [] => s
  | none, .back c old :: r => { s with todo := r, caps := s.caps.set c old }
  | none, .pair i k :: r =>
    if s.met.getD (bitOf t at_ i k) true then { s with todo := r }
    else match p.insts[i]? with
      | none => { s with todo := r }
      | some x => eff t x k { s with todo := r, met := s.met.set (bitOf t at_ i k) true, steps := s.steps + 1 }
def halted (s : MS) : Prop := s.fin ≠ none ∨ s.todo = []
def unmet (s : MS) : Nat := s.met.count false
/-- How many steps may come. -/
def meas (s : MS) : Nat := 3 * unmet s + s.todo.length + (if s.fin = none then 1 else 0)
def iter : Nat → MS → MS
  | 0, s => s
  | n + 1, s => iter n (mstep p t at_ s)
theorem iter_succ' (n : Nat) (s : MS) : iter p t at_ (n + 1) s = mstep p t at_ (iter p t at_ n s) := by
  induction n generalizing s with
  | zero => rfl
  | succ n ih => rw [iter, ih]; rfl
theorem halt_stay {s : MS} (h : halted s) : mstep p t at_ s = s := by
  unfold mstep
  rcases h with h | h
  · split
    · rfl
    · exact absurd ‹_› h
    · exact absurd ‹_› h
    · exact absurd ‹_› h
  · rw [h]
    split <;> first | rfl | (rename_i h2; cases h2)
theorem halt_iter {s : MS} (h : halted s) (n : Nat) : iter p t at_ n s = s := by
  induction n with
  | zero => rfl
  | succ n ih => rw [iter, halt_stay p t at_ h, ih]
theorem count_set {l : List Bool} {q : Nat} (h : l.getD q true = false) : (l.set q true).count false + 1 = l.count false := by
  induction l generalizing q with
  | nil => simp at h
  | cons b l ih =>
    cases q with
    | zero => simp at h; subst h; simp
    | succ q =>
      have := ih (q := q) (by simpa using h)
      rw [List.set_cons_succ, List.count_cons, List.count_cons]
      omega
theorem eff_meas (x : Ins) (k : Nat) (s : MS) (h : s.fin = none) : meas (eff t x k s) ≤ meas s + 2 ∧ unmet (eff t x k s) = unmet s := by
  unfold eff
  refine ⟨?_, ?_⟩
  · repeat' split
    all_goals simp only [meas, unmet, h, List.length_cons, if_true]
    all_goals first | omega | (simp only [reduceCtorEq, if_false]; omega)
  · repeat' split
    all_goals rfl
theorem step_less {s : MS} (h : ¬ halted s) : meas (mstep p t at_ s) < meas s := by
  unfold halted at h
  obtain ⟨todo, met, caps, steps, fin⟩ := s
  simp only [not_or, ne_eq, Classical.not_not] at h
  obtain ⟨rfl, h2⟩ := h
  unfold mstep
  match todo, h2 with
  | .back c old :: r, _ => simp [meas, unmet]
  | .pair i k :: r, _ =>
    simp only []
    split
    · simp [meas, unmet]
    · rename_i hm
      have hm : met.getD (bitOf t at_ i k) true = false := by simpa using hm
      split
      · simp [meas, unmet]
      · have hc := count_set hm
        refine Nat.lt_of_le_of_lt (eff_meas t _ k _ rfl).1 ?_
        simp only [meas, unmet, if_true, List.length_cons]
        omega
theorem iter_halts (s : MS) : ∀ n, meas s ≤ n → halted (iter p t at_ n s) := by
  intro n
  induction n generalizing s with
  | zero =>
    intro h
    unfold meas at h
    refine .inr ?_
    have : s.todo.length = 0 := by omega
    exact List.eq_nil_of_length_eq_zero this
  | succ n ih =>
    intro h
    by_cases hh : halted s
    · rw [halt_iter p t at_ hh]; exact hh
    · rw [iter]
      exact ih _ (by have := step_less p t at_ hh; omega)
/-- Where the machine comes to. -/
def final (s : MS) : MS := iter p t at_ (meas s) s
theorem final_of {s : MS} {n : Nat} (h : halted (iter p t at_ n s)) : iter p t at_ n s = final p t at_ s := by
  have h2 : halted (iter p t at_ (meas s) s) := iter_halts p t at_ s _ (Nat.le_refl _)
  have add : ∀ a b s, iter p t at_ (a + b) s = iter p t at_ b (iter p t at_ a s) := fun a b s => by
    induction a generalizing s with
    | zero => rw [Nat.zero_add]; rfl
    | succ a ih => rw [Nat.succ_add, iter, ih]; rfl
  unfold final
  rcases Nat.le_total n (meas s) with g | g
  · rw [show meas s = n + (meas s - n) from by omega, add, halt_iter p t at_ h]
  · rw [show n = meas s + (n - meas s) from by omega, add, halt_iter p t at_ h2]
/-- A begin: the pair of the start, no capture. -/
def begin_ (b : Nat) (met : List Bool) (steps : Nat) : MS := ⟨[.pair p.start.toNat b], met, List.replicate p.caps.toNat (-1), steps, none⟩
/-- What is found from a place on: captures and which; none: nothing; and the steps. -/
def search (anch : Bool) : Nat → Nat → List Bool → Nat → Option (List Int × Int) × Nat
  | 0, _, _, steps => (none, steps)
  | n + 1, b, met, steps =>
    let f := final p t at_ (begin_ p b met steps)
    match f.fin with
    | some w => (some (f.caps, w), f.steps)
    | none => if anch then (none, f.steps) else search anch n (b + 1) f.met f.steps
end
/-- What Run answers: the error; else what is found. -/
def runR (p : Prg) (t : List Int) (a : Int) (anch : Bool) : Int × Option (List Int × Int) × Nat :=
  if 4194304 < t.length then (2, none, 0)
  else if checkB p = false then (90, none, 0)
  else if a < 0 ∨ (t.length : Int) < a then (1, none, 0)
  else if 16777216 < p.insts.length * (t.length - a.toNat + 1) then (3, none, 0)
  else (0, search p t a.toNat anch (t.length + 1 - a.toNat) a.toNat (List.replicate (p.insts.length * places t a.toNat) false) 0)
end Go.Proofs.Ytjeljlgjkjeloaa.Mach
/- The machine of chapter 12: what stays true in its steps. No program here. -/
namespace Go.Proofs.Ytjeljlgjkjeloaa.Mach
section
variable (p : Prg) (t : List Int) (at_ : Nat)
def JobOk : Job → Prop
  | .pair i k => i < p.insts.length ∧ at_ ≤ k ∧ k ≤ t.length
  | .back c _ => c < p.caps.toNat
structure Ok (s : MS) : Prop where
  met : s.met.length = p.insts.length * places t at_
  caps : s.caps.length = p.caps.toNat
  jobs : ∀ j ∈ s.todo, JobOk p t at_ j
  room : 3 * unmet s + s.todo.length ≤ 3 * s.met.length + 2
  steps : s.steps + unmet s ≤ s.met.length
variable {p t at_}
theorem bit_lt {i k : Nat} (h : JobOk p t at_ (.pair i k)) : bitOf t at_ i k < p.insts.length * places t at_ := by
  obtain ⟨h1, h2, h3⟩ := h
  unfold bitOf places
  have : (i + 1) * (t.length - at_ + 1) ≤ p.insts.length * (t.length - at_ + 1) := Nat.mul_le_mul_right _ h1
  rw [Nat.succ_mul] at this
  omega
theorem may_of (hc : checkB p = true) {i : Nat} {x : Ins} (hx : p.insts[i]? = some x) : mayB x p.insts.length p.caps = true := by
  unfold checkB at hc
  rw [Bool.and_eq_true, List.all_eq_true] at hc
  exact hc.2 x (List.mem_of_getElem? hx)
theorem toNat_lt {x : Int} {n : Nat} (h0 : 0 ≤ x) (h : x < n) : x.toNat < n := by omega
theorem may_x {x : Ins} {n : Nat} {caps : Int} (h : mayB x n caps = true) (ho : x.op = 1 ∨ x.op = 2 ∨ x.op = 3 ∨ x.op = 4 ∨ x.op = 7) : 0 ≤ x.x ∧ x.x < n := by
  unfold mayB at h
  rcases ho with e | e | e | e | e <;> simp [e] at h <;> omega
theorem may_y {x : Ins} {n : Nat} {caps : Int} (h : mayB x n caps = true) (ho : x.op = 2) : 0 ≤ x.y ∧ x.y < n := by
  unfold mayB at h
  simp [ho] at h; omega
theorem may_arg {x : Ins} {n : Nat} {caps : Int} (h : mayB x n caps = true) (ho : x.op = 3) : 0 ≤ x.arg ∧ x.arg < caps := by
  unfold mayB at h
  simp [ho] at h; omega
theorem may_as {x : Ins} {n : Nat} {caps : Int} (h : mayB x n caps = true) (ho : x.op = 4) : ∃ j, j < 6 ∧ x.arg = ((2 ^ j : Nat) : Int) := by
  unfold mayB at h
  simp [ho, isAs] at h
  obtain ⟨_, h⟩ := h
  rcases h with ((((h | h) | h) | h) | h) | h
  · exact ⟨0, by omega, h⟩
  · exact ⟨1, by omega, h⟩
  · exact ⟨2, by omega, h⟩
  · exact ⟨3, by omega, h⟩
  · exact ⟨4, by omega, h⟩
  · exact ⟨5, by omega, h⟩
theorem may_which {x : Ins} {n : Nat} {caps : Int} (h : mayB x n caps = true) (ho : x.op = 5) : 0 ≤ x.arg ∧ x.arg < 100 := by
  unfold mayB at h
  simp [ho] at h; omega
theorem may_rng {x : Ins} {n : Nat} {caps : Int} (h : mayB x n caps = true) (ho : x.op = 1) : rightB x.rng = true := by
  unfold mayB at h
  simp [ho] at h; exact h.2

theorem mstep_back {s : MS} {c : Nat} {old : Int} {r : List Job} (hf : s.fin = none) (ht : s.todo = .back c old :: r) : mstep p t at_ s = { s with todo := r, caps := s.caps.set c old } := by
  unfold mstep; rw [hf, ht]
theorem mstep_met {s : MS} {i k : Nat} {r : List Job} (hf : s.fin = none) (ht : s.todo = .pair i k :: r) (hm : s.met.getD (bitOf t at_ i k) true = true) : mstep p t at_ s = { s with todo := r } := by
  unfold mstep; rw [hf, ht]; simp only [hm, if_true]
theorem mstep_pair {s : MS} {i k : Nat} {r : List Job} {x : Ins} (hf : s.fin = none) (ht : s.todo = .pair i k :: r) (hm : s.met.getD (bitOf t at_ i k) true = false) (hx : p.insts[i]? = some x) :
    mstep p t at_ s = eff t x k { s with todo := r, met := s.met.set (bitOf t at_ i k) true, steps := s.steps + 1 } := by
  unfold mstep; rw [hf, ht]; simp only [hm, hx, Bool.false_eq_true, if_false]

theorem unmet_set {s : MS} {q : Nat} {r : List Job} {c : List Int} {n : Nat} {f : Option Int} (h : s.met.getD q true = false) : unmet ⟨r, s.met.set q true, c, n, f⟩ + 1 = unmet s := count_set h

theorem Ok.eff_ {x : Ins} {k : Nat} {s : MS} (hx : mayB x p.insts.length p.caps = true) (hk : at_ ≤ k ∧ k ≤ t.length)
    (met : s.met.length = p.insts.length * places t at_) (caps : s.caps.length = p.caps.toNat) (jobs : ∀ j ∈ s.todo, JobOk p t at_ j)
    (room : 3 * unmet s + s.todo.length ≤ 3 * s.met.length) (steps : s.steps + unmet s ≤ s.met.length) : Ok p t at_ (eff t x k s) := by
  have hp : ∀ {y : Int} {m : Nat}, 0 ≤ y → y < p.insts.length → at_ ≤ m → m ≤ t.length → JobOk p t at_ (.pair y.toNat m) := fun a b c d => ⟨by omega, c, d⟩
  have jx : (x.op = 1 ∨ x.op = 2 ∨ x.op = 3 ∨ x.op = 4 ∨ x.op = 7) → ∀ m, at_ ≤ m → m ≤ t.length → JobOk p t at_ (.pair x.x.toNat m) := fun ho m a b => hp (may_x hx ho).1 (may_x hx ho).2 a b
  unfold eff
  repeat' split
  all_goals
    refine ⟨met, ?_, ?_, ?_, steps⟩
  all_goals first
    | exact caps
    | exact jobs
    | (simp only [unmet, List.length_cons] at *; omega)
    | (simp only [List.length_set]; exact caps)
    | skip
  all_goals intro j hj; simp only [List.mem_cons] at hj
  · rename_i ho hc
    rcases hj with rfl | hj
    · exact jx (.inl ho) _ (by omega) (by omega)
    · exact jobs j hj
  · rename_i _ ho
    rcases hj with rfl | rfl | hj
    · exact jx (.inr (.inl ho)) _ hk.1 hk.2
    · exact hp (may_y hx ho).1 (may_y hx ho).2 hk.1 hk.2
    · exact jobs j hj
  · rename_i _ _ ho
    rcases hj with rfl | rfl | hj
    · exact jx (.inr (.inr (.inl ho))) _ hk.1 hk.2
    · have := may_arg hx ho
      show x.arg.toNat < p.caps.toNat
      omega
    · exact jobs j hj
  · rename_i _ _ _ ho _
    rcases hj with rfl | hj
    · exact jx (.inr (.inr (.inr (.inl ho)))) _ hk.1 hk.2
    · exact jobs j hj
  · rename_i _ _ _ _ _ ho
    rcases hj with rfl | hj
    · exact jx (.inr (.inr (.inr (.inr ho)))) _ hk.1 hk.2
    · exact jobs j hj
/-- What is true stays so. -/
theorem Ok.step {s : MS} (hc : checkB p = true) (h : Ok p t at_ s) : Ok p t at_ (mstep p t at_ s) := by
  obtain ⟨todo, met, caps, steps, fin⟩ := s
  obtain ⟨hm, hcp, hj, hr, hs⟩ := h
  simp only [] at hm hcp hj hr hs
  cases fin with
  | some v => exact ⟨hm, hcp, hj, hr, hs⟩
  | none =>
    match todo with
    | [] => exact ⟨hm, hcp, hj, hr, hs⟩
    | .back c old :: r =>
      rw [mstep_back rfl rfl]
      exact ⟨hm, by simpa using hcp, fun j h => hj j (List.mem_cons_of_mem _ h), by simp only [unmet, List.length_cons] at *; omega, hs⟩
    | .pair i k :: r =>
      have hjk := hj _ List.mem_cons_self
      by_cases hq : met.getD (bitOf t at_ i k) true = true
      · rw [mstep_met rfl rfl hq]
        exact ⟨hm, hcp, fun j h => hj j (List.mem_cons_of_mem _ h), by simp only [unmet, List.length_cons] at *; omega, hs⟩
      · rw [Bool.not_eq_true] at hq
        obtain ⟨x, hx⟩ : ∃ x, p.insts[i]? = some x := ⟨_, List.getElem?_eq_getElem hjk.1⟩
        rw [mstep_pair rfl rfl hq hx]
        have hcount := count_set hq
        refine Ok.eff_ (may_of hc hx) hjk.2 (by simpa using hm) hcp (fun j h => hj j (List.mem_cons_of_mem _ h)) ?_ ?_
        · simp only [unmet, List.length_cons, List.length_set] at *; omega
        · simp only [unmet, List.length_set] at *; omega
/-- At a begin. -/
theorem Ok.start (hc : checkB p = true) (hat : at_ ≤ t.length) {b : Nat} (hb : at_ ≤ b ∧ b ≤ t.length) {met : List Bool} {steps : Nat} (hm : met.length = p.insts.length * places t at_) (hs : steps + met.count false ≤ met.length) :
    Ok p t at_ (begin_ p b met steps) := by
  unfold checkB headB at hc
  simp only [Bool.and_eq_true, decide_eq_true_eq] at hc
  have := hc.1
  have hcle : met.count false ≤ met.length := List.count_le_length
  refine ⟨hm, by simp [begin_], ?_, ?_, hs⟩
  · intro j hj
    simp only [begin_, List.mem_singleton] at hj
    subst hj
    exact ⟨by omega, hb⟩
  · simp only [begin_, unmet, List.length_cons, List.length_nil]; omega
end
end Go.Proofs.Ytjeljlgjkjeloaa.Mach
