/- runes.Right -/
import Derived.Handy
import Derived.BigQuiet
import Derived.Deep.QuietTactic
import Derived.Test.YtfgelkfnbohmmaaP00
import Derived.Test.YtfgelkfnbohmmaaP01
namespace Go.Proofs.Ytfgelkfnbohmmaa
open Go.RowKit
/-- May a range stand in a class? -/
def okx (x : Int × Int) : Bool := dom x.1 && dom x.2 && decide (x.1 ≤ x.2) && !(decide (x.1 < 55296) && decide (57343 < x.2))
/-- .. and at a place of the list? -/
def okAt (l : List (Int × Int)) (j : Nat) : Bool :=
  match l[j]? with
  | none => true
  | some x => okx x && (j == 0 || match l[j - 1]? with | none => true | some y => decide (y.2 + 1 < x.1))
def clsB (l : List (Int × Int)) : Bool := (List.range l.length).all (okAt l)
def rightB (l : List (Int × Int)) : Bool := decide (l.length ≤ 5000) && clsB l
theorem cls_no {l : List (Int × Int)} {j : Nat} (hj : j < l.length) (h : okAt l j = false) : rightB l = false := by
  unfold rightB clsB
  rw [show (List.range l.length).all (okAt l) = false from by rw [List.all_eq_false]; exact ⟨j, by simpa using hj, by simp [h]⟩, Bool.and_false]
theorem cls_yes {l : List (Int × Int)} (hl : l.length ≤ 5000) (h : ∀ j, j < l.length → okAt l j = true) : rightB l = true := by
  unfold rightB clsB
  rw [decide_eq_true hl, Bool.true_and, List.all_eq_true]
  intro j hj
  exact h j (by simpa using hj)
set_option maxRecDepth 100000 in
set_option maxHeartbeats 2000000 in
theorem right_any (A : Option Addr) (n c : Nat) (l : List (Int × Int)) (w : World) (hr : Reads w w.heap.size 2 A n c (flat l)) :
    Calls Try.prog 42 #[.slice A n c] w fun e w' => e = .returned (.bool (rightB l)) ∧ Below w.heap.size w w' := by
  obtain ⟨B, hB⟩ : ∃ B, B = w.heap.size := ⟨_, rfl⟩
  rw [← hB] at hr
  rw [← hB]
  have hBs : B ≤ w.heap.size := by omega
  have hlen : l.length = n := by have := hr.len; rw [flat_length] at this; omega
  have HLEN := Lib.hid hlen
  have hnc := hr.le
  have hcap := hr.cap
  have HR := Lib.hid hr
  clear hB hlen hr
  by_cases hbig : 5000 < n
  · have HF := Lib.hid (show rightB l = false from by unfold rightB; rw [decide_eq_false (by have := HLEN.out; omega)]; rfl)
    go_enter Try.func42, Try.ntmps42
    go_wp2_with fail
    go_ret
    exact ⟨ret_bool HF.out.symm, Below.refl _ _⟩
  have hn5 : n ≤ 5000 := by omega
  go_enter Try.func42, Try.ntmps42
  go_wp2_with fail
  go_loopw [10] (fun p wr => ∃ i : Nat, i ≤ n ∧ p = .int .i64 i ∧ (∀ j, j < i → okAt l j = true) ∧ Below B w wr) (fun p _ => n - (intOf p).toNat)
  case atStart => exact ⟨0, Nat.zero_le _, rfl, fun j hj => absurd hj (by omega), Below.refl _ _⟩
  case round =>
    obtain ⟨i, hi1, rfl, hok, hbel⟩ := hrel
    have hszr : B ≤ wr.heap.size := by have := hbel.size; omega
    have HOK := Lib.hid hok
    clear hok
    by_cases hlt : i < n
    · obtain ⟨x, hx⟩ : ∃ x, l[i]? = some x := ⟨_, List.getElem?_eq_getElem (by have := HLEN.out; omega)⟩
      obtain ⟨b, off, rfl, hb, hcell⟩ := (HR.out.below hbel).at_ (by omega)
      have hc1 : wr.cell? ⟨b, off + i * 2, none⟩ = some (.int .i64 x.1) := hcell _ _ (flat_get l i x hx).1
      have hc2 : wr.cell? ⟨b, off + i * 2 + 1, none⟩ = some (.int .i64 x.2) := by rw [Nat.add_assoc]; exact hcell _ _ (flat_get l i x hx).2
      have HX := Lib.hid hx
      have HC := Lib.hid hcell
      obtain ⟨x1, x2⟩ := x
      have hbe1 := hbel.alloc hszr (.cells #[.int .i64 x1, .int .i64 x2] 52)
      have HNO := Lib.hid (show okAt l i = false → rightB l = false from fun h => cls_no (by have := HLEN.out; omega) h)
      have HBAD := Lib.hid (show okx (x1, x2) = false → rightB l = false from fun h => HNO.out (by unfold okAt; rw [HX.out]; simp [h]))
      clear hcell hx
      cases hd1 : dom x1 with
      | false =>
        have HF := Lib.hid (HBAD.out (by simp [okx, hd1]))
        go_wp2_with (go_at_call 78; refine (domain_any _ _).mono ?_; rintro e w' ⟨rfl, rfl⟩; rw [hd1])
        go_ret
        exact ⟨ret_bool HF.out.symm, hbe1⟩
      | true =>
      cases hd2 : dom x2 with
      | false =>
        have HF := Lib.hid (HBAD.out (by simp [okx, hd2]))
        go_wp2_with (go_at_call 78; refine (domain_any _ _).mono ?_; rintro e w' ⟨rfl, rfl⟩; first | rw [hd1] | rw [hd2])
        go_ret
        exact ⟨ret_bool HF.out.symm, hbe1⟩
      | true =>
      by_cases g1 : x2 < x1
      · have HF := Lib.hid (HBAD.out (by simp [okx]; omega))
        go_wp2_with (go_at_call 78; refine (domain_any _ _).mono ?_; rintro e w' ⟨rfl, rfl⟩; first | rw [hd1] | rw [hd2])
        go_ret
        exact ⟨ret_bool HF.out.symm, hbe1⟩
      have hx0 : 0 ≤ x1 ∧ x1 ≤ 1114111 := by simp only [dom, decide_eq_true_eq] at hd1; omega
      have hx3 : x2 ≤ 1114111 := by simp only [dom, decide_eq_true_eq] at hd2; omega
      by_cases g2 : x1 < 55296 ∧ 57343 < x2
      · obtain ⟨g2, g3⟩ := g2
        have HF := Lib.hid (HBAD.out (by simp [okx, g2, g3]))
        go_wp2_with (go_at_call 78; refine (domain_any _ _).mono ?_; rintro e w' ⟨rfl, rfl⟩; first | rw [hd1] | rw [hd2])
        go_ret
        exact ⟨ret_bool HF.out.symm, hbe1⟩
      have HOX := Lib.hid (show okx (x1, x2) = true from by simp only [okx, hd1, hd2]; simp; omega)
      obtain ⟨hx0, hx1⟩ := hx0
      have HXX := Lib.hid (show ∀ wq : World, True from fun _ => trivial)
      rcases Nat.eq_zero_or_pos i with h0 | h0
      · subst h0
        rw [Nat.zero_mul, Nat.add_zero] at hc1 hc2
        have HAT := Lib.hid (show okAt l 0 = true from by unfold okAt; rw [HX.out]; simp [HOX.out])
        have hd0 : decide ((0 : Int) < ((0 : Nat) : Int)) = false := rfl
        have hd0' : decide ((0 : Int) < 0) = false := rfl
        by_cases g3 : x1 < 55296
        all_goals
          go_wp2_with (go_at_call 78; refine (domain_any _ _).mono ?_; rintro e w' ⟨rfl, rfl⟩; first | rw [hd1] | rw [hd2])
          go_quiet (fail)
          go_wp2_with fail
          go_roundw
          case rel => exact ⟨1, by omega, by go_num, fun j hj => (show j = 0 from by omega) ▸ HAT.out, bdrewN hbe1 nq⟩
          case measure => simp [intOf]; omega
      · obtain ⟨y, hy⟩ : ∃ y, l[i - 1]? = some y := ⟨_, List.getElem?_eq_getElem (by have := HLEN.out; omega)⟩
        have hc3 : wr.cell? ⟨b, off + ((i - 1) * 2 + 1), none⟩ = some (.int .i64 y.2) := HC.out _ _ (flat_get l (i - 1) y hy).2
        have hyk : okx y = true := by
          have := HOK.out (i - 1) (by omega)
          unfold okAt at this
          rw [hy] at this
          simp only [Bool.and_eq_true] at this
          exact this.1
        have HY := Lib.hid hy
        obtain ⟨y1, y2⟩ := y
        have hy2 : 0 ≤ y2 ∧ y2 ≤ 1114111 := by simp only [okx, dom, Bool.and_eq_true, decide_eq_true_eq] at hyk; omega
        obtain ⟨hy2, hy3⟩ := hy2
        clear hy hyk
        have hd0 : decide ((0 : Int) < (i : Int)) = true := decide_eq_true (by omega)
        have hi0 : ((i : Int) - 1).toNat = i - 1 := by omega
        have hi2 : 0 ≤ (i : Int) - 1 := by omega
        have hi3 : (i : Int) - 1 < n := by omega
        have hc4 : (wr.alloc (.cells #[.int .i64 x1, .int .i64 x2] 52)).cell? ⟨b, off + (i - 1) * 2 + 1, none⟩ = some (.int .i64 y2) := by
          rw [Nat.add_assoc]; exact (World.cell?_alloc_lt wr _ ⟨b, off + ((i - 1) * 2 + 1), none⟩ (by simp; omega)).trans hc3
        have hxc1 : (wr.alloc (.cells #[.int .i64 x1, .int .i64 x2] 52)).cell? ⟨wr.heap.size, 0, none⟩ = some (.int .i64 x1) := by go_simp
        clear hc3
        by_cases g4 : x1 ≤ y2 + 1
        · have HF := Lib.hid (HNO.out (by unfold okAt; rw [HX.out]; simp only [HY.out, HOX.out, Bool.true_and]; simp; omega))
          have hd4 : decide (x1 ≤ y2 + 1) = true := decide_eq_true g4
          by_cases g3 : x1 < 55296
          all_goals
            go_wp2_with (go_at_call 78; refine (domain_any _ _).mono ?_; rintro e w' ⟨rfl, rfl⟩; first | rw [hd1] | rw [hd2])
            go_quiet (fail)
            go_wp2_with fail
            go_ret
            exact ⟨ret_bool HF.out.symm, bdrewN hbe1 nq⟩
        · have HAT := Lib.hid (show okAt l i = true from by unfold okAt; rw [HX.out]; simp only [HY.out, HOX.out, Bool.true_and]; simp; omega)
          have HOR := Lib.hid (show ∀ j, j < i + 1 → okAt l j = true from fun j hj => by
            rcases Nat.lt_or_ge j i with h | h
            · exact HOK.out j h
            · exact (show j = i from by omega) ▸ HAT.out)
          have hd4 : decide (x1 ≤ y2 + 1) = false := decide_eq_false g4
          by_cases g3 : x1 < 55296
          all_goals
            go_wp2_with (go_at_call 78; refine (domain_any _ _).mono ?_; rintro e w' ⟨rfl, rfl⟩; first | rw [hd1] | rw [hd2])
            go_quiet (fail)
            go_wp2_with fail
            go_roundw
            case rel => exact ⟨i + 1, by omega, by go_num, HOR.out, bdrewN hbe1 nq⟩
            case measure => simp [intOf]; omega
    · obtain rfl : i = n := by omega
      have HT := Lib.hid (show rightB l = true from cls_yes (by have := HLEN.out; omega) (fun j hj => HOK.out j (by have := HLEN.out; omega)))
      go_wp2_with fail
      go_ret
      exact ⟨ret_bool HT.out.symm, hbel⟩
end Go.Proofs.Ytfgelkfnbohmmaa
namespace Go.Proofs.Ytfgelkfnbohmmaa
/-- Is a rune in one of the ranges? -/
def memB (l : List (Int × Int)) (r : Int) : Bool := l.any fun x => decide (x.1 ≤ r ∧ r ≤ x.2)
end Go.Proofs.Ytfgelkfnbohmmaa
namespace Go.Proofs.Ytfgelkfnbohmmaa.Mach
/-- An instruction; a program. -/
structure Ins where
  op : Int
  x : Int
  y : Int
  arg : Int
  rng : List (Int × Int)
structure Prg where
  insts : List Ins
  start : Int
  caps : Int
def isAs (a : Int) : Bool := a == 1 || a == 2 || a == 4 || a == 8 || a == 16 || a == 32
/-- May an instruction stand in a program of n, with so many captures? -/
def mayB (i : Ins) (n caps : Int) : Bool :=
  if i.op = 1 then decide (0 ≤ i.x ∧ i.x < n ∧ i.y = 0 ∧ i.arg = 0 ∧ i.rng ≠ []) && rightB i.rng
  else if i.op = 2 then decide (0 ≤ i.x ∧ i.x < n ∧ 0 ≤ i.y ∧ i.y < n ∧ i.arg = 0 ∧ i.rng = [])
  else if i.op = 3 then decide (0 ≤ i.x ∧ i.x < n ∧ i.y = 0 ∧ 0 ≤ i.arg ∧ i.arg < caps ∧ i.rng = [])
  else if i.op = 4 then decide (0 ≤ i.x ∧ i.x < n ∧ i.y = 0 ∧ i.rng = []) && isAs i.arg
  else if i.op = 5 then decide (i.x = 0 ∧ i.y = 0 ∧ 0 ≤ i.arg ∧ i.arg < 100 ∧ i.rng = [])
  else if i.op = 6 then decide (i.x = 0 ∧ i.y = 0 ∧ i.arg = 0 ∧ i.rng = [])
  else if i.op = 7 then decide (0 ≤ i.x ∧ i.x < n ∧ i.y = 0 ∧ i.arg = 0 ∧ i.rng = [])
  else false
def headB (n start caps : Int) : Bool := decide (1 ≤ n ∧ n ≤ 20000 ∧ 0 ≤ start ∧ start < n ∧ 2 ≤ caps ∧ caps ≤ 1002 ∧ caps % 2 = 0)
def checkB (p : Prg) : Bool := headB p.insts.length p.start p.caps && p.insts.all fun i => mayB i p.insts.length p.caps
/-- The number that Check answers. -/
def chkE (p : Prg) : Int := if checkB p then 0 else 90
/-- Which of the six assertions hold at a place; the sum of their bits. -/
def hb (t : List Int) (k : Nat) : Nat → Bool
  | 0 => decide (k = 0)
  | 1 => decide (k = t.length)
  | 2 => decide (k = 0) || t.getD (k - 1) 0 == 10
  | 3 => decide (k = t.length) || t.getD k 0 == 10
  | 4 => (!decide (k = 0) && word (t.getD (k - 1) 0)) != (!decide (k = t.length) && word (t.getD k 0))
  | _ => !((!decide (k = 0) && word (t.getD (k - 1) 0)) != (!decide (k = t.length) && word (t.getD k 0)))
def sumB (f : Nat → Bool) : Nat → Nat
  | 0 => 0
  | j + 1 => sumB f j + (if f j then 2 ^ j else 0)
theorem sumB_lt (f : Nat → Bool) : ∀ j, sumB f j < 2 ^ j
  | 0 => by simp [sumB]
  | j + 1 => by have := sumB_lt f j; rw [sumB, Nat.pow_succ]; split <;> omega
def atBits (t : List Int) (k : Nat) : Int := (sumB (hb t k) 6 : Nat)
theorem atBits_bd (t : List Int) (k : Nat) : 0 ≤ atBits t k ∧ atBits t k < 64 := by
  have := sumB_lt (hb t k) 6
  unfold atBits; omega
/-- Does one of the six assertions hold there? -/
def asB (t : List Int) (k : Nat) (a : Int) : Bool := decide (atBits t k / a % 2 = 1)
/-- What is still to be done: a pair; a capture becomes again what it was. -/
inductive Job where
  | pair (i k : Nat)
  | back (c : Nat) (old : Int)
/-- The machine: the top of what is to be done stands first; the map by instruction * places + place. -/
structure MS where
  todo : List Job
  met : List Bool
  caps : List Int
  steps : Nat
  fin : Option Int
section
variable (p : Prg) (t : List Int) (at_ : Nat)
def places : Nat := t.length - at_ + 1
def bitOf (i k : Nat) : Nat := i * places t at_ + (k - at_)
/-- What an instruction at a place puts on top. -/
def eff (x : Ins) (k : Nat) (s : MS) : MS :=
  if x.op = 1 then (if k < t.length ∧ memB x.rng (t.getD k 0) = true then { s with todo := .pair x.x.toNat (k + 1) :: s.todo } else s)
  else if x.op = 2 then { s with todo := .pair x.x.toNat k :: .pair x.y.toNat k :: s.todo }
  else if x.op = 3 then { s with todo := .pair x.x.toNat k :: .back x.arg.toNat (s.caps.getD x.arg.toNat 0) :: s.todo, caps := s.caps.set x.arg.toNat k }
  else if x.op = 4 then (if asB t k x.arg then { s with todo := .pair x.x.toNat k :: s.todo } else s)
  else if x.op = 5 then { s with fin := some x.arg }
  else if x.op = 7 then { s with todo := .pair x.x.toNat k :: s.todo }
  else s
def mstep (s : MS) : MS :=
  match s.fin, s.todo with
  | some _, _ => s
  | none, [] => s
  | none, .back c old :: r => { s with todo := r, caps := s.caps.set c old }
  | none, .pair i k :: r =>
    if s.met.getD (bitOf t at_ i k) true then { s with todo := r }
    else match p.insts[i]? with
      | none => { s with todo := r }
      | some x => eff t x k { s with todo := r, met := s.met.set (bitOf t at_ i k) true, steps := s.steps + 1 }
def halted (s : MS) : Prop := s.fin ≠ none ∨ s.todo = []
def unmet (s : MS) : Nat := s.met.count false
/-- How many steps may come. -/
def meas (s : MS) : Nat := 3 * unmet s + s.todo.length + (if s.fin = none then 1 else 0)
def iter : Nat → MS → MS
  | 0, s => s
  | n + 1, s => iter n (mstep p t at_ s)
theorem iter_succ' (n : Nat) (s : MS) : iter p t at_ (n + 1) s = mstep p t at_ (iter p t at_ n s) := by
  induction n generalizing s with
  | zero => rfl
  | succ n ih => rw [iter, ih]; rfl
theorem halt_stay {s : MS} (h : halted s) : mstep p t at_ s = s := by
  unfold mstep
  rcases h with h | h
  · split
    · rfl
    · exact absurd ‹_› h
    · exact absurd ‹_› h
    · exact absurd ‹_› h
  · rw [h]
    split <;> first | rfl | (rename_i h2; cases h2)
theorem halt_iter {s : MS} (h : halted s) (n : Nat) : iter p t at_ n s = s := by
  induction n with
  | zero => rfl
  | succ n ih => rw [iter, halt_stay p t at_ h, ih]
theorem count_set {l : List Bool} {q : Nat} (h : l.getD q true = false) : (l.set q true).count false + 1 = l.count false := by
  induction l generalizing q with
  | nil => simp at h
  | cons b l ih =>
    cases q with
    | zero => simp at h; subst h; simp
    | succ q =>
      have := ih (q := q) (by simpa using h)
      rw [List.set_cons_succ, List.count_cons, List.count_cons]
      omega
theorem eff_meas (x : Ins) (k : Nat) (s : MS) (h : s.fin = none) : meas (eff t x k s) ≤ meas s + 2 ∧ unmet (eff t x k s) = unmet s := by
  unfold eff
  refine ⟨?_, ?_⟩
  · repeat' split
    all_goals simp only [meas, unmet, h, List.length_cons, if_true]
    all_goals first | omega | (simp only [reduceCtorEq, if_false]; omega)
  · repeat' split
    all_goals rfl
theorem step_less {s : MS} (h : ¬ halted s) : meas (mstep p t at_ s) < meas s := by
  unfold halted at h
  obtain ⟨todo, met, caps, steps, fin⟩ := s
  simp only [not_or, ne_eq, Classical.not_not] at h
  obtain ⟨rfl, h2⟩ := h
  unfold mstep
  match todo, h2 with
  | .back c old :: r, _ => simp [meas, unmet]
  | .pair i k :: r, _ =>
    simp only []
    split
    · simp [meas, unmet]
    · rename_i hm
      have hm : met.getD (bitOf t at_ i k) true = false := by simpa using hm
      split
      · simp [meas, unmet]
      · have hc := count_set hm
        refine Nat.lt_of_le_of_lt (eff_meas t _ k _ rfl).1 ?_
        simp only [meas, unmet, if_true, List.length_cons]
        omega
theorem iter_halts (s : MS) : ∀ n, meas s ≤ n → halted (iter p t at_ n s) := by
  intro n
  induction n generalizing s with
  | zero =>
    intro h
    unfold meas at h
    refine .inr ?_
    have : s.todo.length = 0 := by omega
    exact List.eq_nil_of_length_eq_zero this
  | succ n ih =>
    intro h
    by_cases hh : halted s
    · rw [halt_iter p t at_ hh]; exact hh
    · rw [iter]
      exact ih _ (by have := step_less p t at_ hh; omega)
/-- Where the machine comes to. -/
def final (s : MS) : MS := iter p t at_ (meas s) s
theorem final_of {s : MS} {n : Nat} (h : halted (iter p t at_ n s)) : iter p t at_ n s = final p t at_ s := by
  have h2 : halted (iter p t at_ (meas s) s) := iter_halts p t at_ s _ (Nat.le_refl _)
  have add : ∀ a b s, iter p t at_ (a + b) s = iter p t at_ b (iter p t at_ a s) := fun a b s => by
    induction a generalizing s with
    | zero => rw [Nat.zero_add]; rfl
    | succ a ih => rw [Nat.succ_add, iter, ih]; rfl
  unfold final
  rcases Nat.le_total n (meas s) with g | g
  · rw [show meas s = n + (meas s - n) from by omega, add, halt_iter p t at_ h]
  · rw [show n = meas s + (n - meas s) from by omega, add, halt_iter p t at_ h2]
/-- A begin: the pair of the start, no capture. -/
def begin_ (b : Nat) (met : List Bool) (steps : Nat) : MS := ⟨[.pair p.start.toNat b], met, List.replicate p.caps.toNat (-1), steps, none⟩
end
end Go.Proofs.Ytfgelkfnbohmmaa.Mach
