/- runes.Right -/
import Derived.Handy
import Derived.BigQuiet
import Derived.Deep.QuietTactic
import Derived.Test.YteimpcjafgllpaaQ00
import Derived.Test.YteimpcjafgllpaaQ01
namespace Go.Proofs.Yteimpcjafgllpaa
open Go.RowKit
/-- May a range stand in a class? -/
def okx (x : Int × Int) : Bool := dom x.1 && dom x.2 && decide (x.1 ≤ x.2) && !(decide (x.1 < 55296) && decide (57343 < x.2))
/-- .. and at a place of the list? -/
def okAt (l : List (Int × Int)) (j : Nat) : Bool :=
  match l[j]? with
  | none => true
  | some x => okx x && (j == 0 || match l[j - 1]? with | none => true | some y => decide (y.2 + 1 < x.1))
def clsB (l : List (Int × Int)) : Bool := (List.range l.length).all (okAt l)
def rightB (l : List (Int × Int)) : Bool := decide (l.length ≤ 5000) && clsB l
theorem cls_no {l : List (Int × Int)} {j : Nat} (hj : j < l.length) (h : okAt l j = false) : rightB l = false := by
  unfold rightB clsB
  rw [show (List.range l.length).all (okAt l) = false from by rw [List.all_eq_false]; exact ⟨j, by simpa using hj, by simp [h]⟩, Bool.and_false]
theorem cls_yes {l : List (Int × Int)} (hl : l.length ≤ 5000) (h : ∀ j, j < l.length → okAt l j = true) : rightB l = true := by
  unfold rightB clsB
  rw [decide_eq_true hl, Bool.true_and, List.all_eq_true]
  intro j hj
  exact h j (by simpa using hj)
set_option maxRecDepth 100000 in
set_option maxHeartbeats 2000000 in
theorem right_any (A : Option Addr) (n c : Nat) (l : List (Int × Int)) (w : World) (hr : Reads w w.heap.size 2 A n c (flat l)) :
    Calls Try.prog 67 #[.slice A n c] w fun e w' => e = .returned (.bool (rightB l)) ∧ Below w.heap.size w w' := by
  obtain ⟨B, hB⟩ : ∃ B, B = w.heap.size := ⟨_, rfl⟩
  rw [← hB] at hr
  rw [← hB]
  have hBs : B ≤ w.heap.size := by omega
  have hlen : l.length = n := by have := hr.len; rw [flat_length] at this; omega
  have HLEN := Lib.hid hlen
  have hnc := hr.le
  have hcap := hr.cap
  have HR := Lib.hid hr
  clear hB hlen hr
  by_cases hbig : 5000 < n
  · have HF := Lib.hid (show rightB l = false from by unfold rightB; rw [decide_eq_false (by have := HLEN.out; omega)]; rfl)
    go_enter Try.func67, Try.ntmps67
    go_wp2_with fail
    go_ret
    exact ⟨ret_bool HF.out.symm, Below.refl _ _⟩
  have hn5 : n ≤ 5000 := by omega
  go_enter Try.func67, Try.ntmps67
  go_wp2_with fail
  go_loopw [10] (fun p wr => ∃ i : Nat, i ≤ n ∧ p = .int .i64 i ∧ (∀ j, j < i → okAt l j = true) ∧ Below B w wr) (fun p _ => n - (intOf p).toNat)
  case atStart => exact ⟨0, Nat.zero_le _, rfl, fun j hj => absurd hj (by omega), Below.refl _ _⟩
  case round =>
    obtain ⟨i, hi1, rfl, hok, hbel⟩ := hrel
    have hszr : B ≤ wr.heap.size := by have := hbel.size; omega
    have HOK := Lib.hid hok
    clear hok
    by_cases hlt : i < n
    · obtain ⟨x, hx⟩ : ∃ x, l[i]? = some x := ⟨_, List.getElem?_eq_getElem (by have := HLEN.out; omega)⟩
      obtain ⟨b, off, rfl, hb, hcell⟩ := (HR.out.below hbel).at_ (by omega)
      have hc1 : wr.cell? ⟨b, off + i * 2, none⟩ = some (.int .i64 x.1) := hcell _ _ (flat_get l i x hx).1
      have hc2 : wr.cell? ⟨b, off + i * 2 + 1, none⟩ = some (.int .i64 x.2) := by rw [Nat.add_assoc]; exact hcell _ _ (flat_get l i x hx).2
      have HX := Lib.hid hx
      have HC := Lib.hid hcell
      obtain ⟨x1, x2⟩ := x
      have hbe1 := hbel.alloc hszr (.cells #[.int .i64 x1, .int .i64 x2] 63)
      have HNO := Lib.hid (show okAt l i = false → rightB l = false from fun h => cls_no (by have := HLEN.out; omega) h)
      have HBAD := Lib.hid (show okx (x1, x2) = false → rightB l = false from fun h => HNO.out (by unfold okAt; rw [HX.out]; simp [h]))
      clear hcell hx
      cases hd1 : dom x1 with
      | false =>
        have HF := Lib.hid (HBAD.out (by simp [okx, hd1]))
        go_wp2_with (go_at_call 79; refine (domain_any _ _).mono ?_; rintro e w' ⟨rfl, rfl⟩; rw [hd1])
        go_ret
        exact ⟨ret_bool HF.out.symm, hbe1⟩
      | true =>
      cases hd2 : dom x2 with
      | false =>
        have HF := Lib.hid (HBAD.out (by simp [okx, hd2]))
        go_wp2_with (go_at_call 79; refine (domain_any _ _).mono ?_; rintro e w' ⟨rfl, rfl⟩; first | rw [hd1] | rw [hd2])
        go_ret
        exact ⟨ret_bool HF.out.symm, hbe1⟩
      | true =>
      by_cases g1 : x2 < x1
      · have HF := Lib.hid (HBAD.out (by simp [okx]; omega))
        go_wp2_with (go_at_call 79; refine (domain_any _ _).mono ?_; rintro e w' ⟨rfl, rfl⟩; first | rw [hd1] | rw [hd2])
        go_ret
        exact ⟨ret_bool HF.out.symm, hbe1⟩
      have hx0 : 0 ≤ x1 ∧ x1 ≤ 1114111 := by simp only [dom, decide_eq_true_eq] at hd1; omega
      have hx3 : x2 ≤ 1114111 := by simp only [dom, decide_eq_true_eq] at hd2; omega
      by_cases g2 : x1 < 55296 ∧ 57343 < x2
      · obtain ⟨g2, g3⟩ := g2
        have HF := Lib.hid (HBAD.out (by simp [okx, g2, g3]))
        go_wp2_with (go_at_call 79; refine (domain_any _ _).mono ?_; rintro e w' ⟨rfl, rfl⟩; first | rw [hd1] | rw [hd2])
        go_ret
        exact ⟨ret_bool HF.out.symm, hbe1⟩
      have HOX := Lib.hid (show okx (x1, x2) = true from by simp only [okx, hd1, hd2]; simp; omega)
      obtain ⟨hx0, hx1⟩ := hx0
      have HXX := Lib.hid (show ∀ wq : World, True from fun _ => trivial)
      rcases Nat.eq_zero_or_pos i with h0 | h0
      · subst h0
        rw [Nat.zero_mul, Nat.add_zero] at hc1 hc2
        have HAT := Lib.hid (show okAt l 0 = true from by unfold okAt; rw [HX.out]; simp [HOX.out])
        have hd0 : decide ((0 : Int) < ((0 : Nat) : Int)) = false := rfl
        have hd0' : decide ((0 : Int) < 0) = false := rfl
        by_cases g3 : x1 < 55296
        all_goals
          go_wp2_with (go_at_call 79; refine (domain_any _ _).mono ?_; rintro e w' ⟨rfl, rfl⟩; first | rw [hd1] | rw [hd2])
          go_quiet (fail)
          go_wp2_with fail
          go_roundw
          case rel => exact ⟨1, by omega, by go_num, fun j hj => (show j = 0 from by omega) ▸ HAT.out, bdrewN hbe1 nq⟩
          case measure => simp [intOf]; omega
      · obtain ⟨y, hy⟩ : ∃ y, l[i - 1]? = some y := ⟨_, List.getElem?_eq_getElem (by have := HLEN.out; omega)⟩
        have hc3 : wr.cell? ⟨b, off + ((i - 1) * 2 + 1), none⟩ = some (.int .i64 y.2) := HC.out _ _ (flat_get l (i - 1) y hy).2
        have hyk : okx y = true := by
          have := HOK.out (i - 1) (by omega)
          unfold okAt at this
          rw [hy] at this
          simp only [Bool.and_eq_true] at this
          exact this.1
        have HY := Lib.hid hy
        obtain ⟨y1, y2⟩ := y
        have hy2 : 0 ≤ y2 ∧ y2 ≤ 1114111 := by simp only [okx, dom, Bool.and_eq_true, decide_eq_true_eq] at hyk; omega
        obtain ⟨hy2, hy3⟩ := hy2
        clear hy hyk
        have hd0 : decide ((0 : Int) < (i : Int)) = true := decide_eq_true (by omega)
        have hi0 : ((i : Int) - 1).toNat = i - 1 := by omega
        have hi2 : 0 ≤ (i : Int) - 1 := by omega
        have hi3 : (i : Int) - 1 < n := by omega
        have hc4 : (wr.alloc (.cells #[.int .i64 x1, .int .i64 x2] 63)).cell? ⟨b, off + (i - 1) * 2 + 1, none⟩ = some (.int .i64 y2) := by
          rw [Nat.add_assoc]; exact (World.cell?_alloc_lt wr _ ⟨b, off + ((i - 1) * 2 + 1), none⟩ (by simp; omega)).trans hc3
        have hxc1 : (wr.alloc (.cells #[.int .i64 x1, .int .i64 x2] 63)).cell? ⟨wr.heap.size, 0, none⟩ = some (.int .i64 x1) := by go_simp
        clear hc3
        by_cases g4 : x1 ≤ y2 + 1
        · have HF := Lib.hid (HNO.out (by unfold okAt; rw [HX.out]; simp only [HY.out, HOX.out, Bool.true_and]; simp; omega))
          have hd4 : decide (x1 ≤ y2 + 1) = true := decide_eq_true g4
          by_cases g3 : x1 < 55296
          all_goals
            go_wp2_with (go_at_call 79; refine (domain_any _ _).mono ?_; rintro e w' ⟨rfl, rfl⟩; first | rw [hd1] | rw [hd2])
            go_quiet (fail)
            go_wp2_with fail
            go_ret
            exact ⟨ret_bool HF.out.symm, bdrewN hbe1 nq⟩
        · have HAT := Lib.hid (show okAt l i = true from by unfold okAt; rw [HX.out]; simp only [HY.out, HOX.out, Bool.true_and]; simp; omega)
          have HOR := Lib.hid (show ∀ j, j < i + 1 → okAt l j = true from fun j hj => by
            rcases Nat.lt_or_ge j i with h | h
            · exact HOK.out j h
            · exact (show j = i from by omega) ▸ HAT.out)
          have hd4 : decide (x1 ≤ y2 + 1) = false := decide_eq_false g4
          by_cases g3 : x1 < 55296
          all_goals
            go_wp2_with (go_at_call 79; refine (domain_any _ _).mono ?_; rintro e w' ⟨rfl, rfl⟩; first | rw [hd1] | rw [hd2])
            go_quiet (fail)
            go_wp2_with fail
            go_roundw
            case rel => exact ⟨i + 1, by omega, by go_num, HOR.out, bdrewN hbe1 nq⟩
            case measure => simp [intOf]; omega
    · obtain rfl : i = n := by omega
      have HT := Lib.hid (show rightB l = true from cls_yes (by have := HLEN.out; omega) (fun j hj => HOK.out j (by have := HLEN.out; omega)))
      go_wp2_with fail
      go_ret
      exact ⟨ret_bool HT.out.symm, hbel⟩
end Go.Proofs.Yteimpcjafgllpaa
namespace Go.Proofs.Yteimpcjafgllpaa.Tr
/-- A node. -/
inductive Tr where
  | mk (kind : Int) (rng : List (Int × Int)) (ast : Int) (subs : List Tr) (mn mx : Int) (lz : Bool) (ix : Int) (nm : ByteArray)
def Tr.kind : Tr → Int | .mk k _ _ _ _ _ _ _ _ => k
def Tr.rng : Tr → List (Int × Int) | .mk _ r _ _ _ _ _ _ _ => r
def Tr.ast : Tr → Int | .mk _ _ a _ _ _ _ _ _ => a
def Tr.subs : Tr → List Tr | .mk _ _ _ s _ _ _ _ _ => s
def Tr.mn : Tr → Int | .mk _ _ _ _ n _ _ _ _ => n
def Tr.mx : Tr → Int | .mk _ _ _ _ _ m _ _ _ => m
def Tr.lz : Tr → Bool | .mk _ _ _ _ _ _ z _ _ => z
def Tr.ix : Tr → Int | .mk _ _ _ _ _ _ _ i _ => i
def Tr.nm : Tr → ByteArray | .mk _ _ _ _ _ _ _ _ s => s
theorem Tr.ind {P : Tr → Prop} (h : ∀ t, (∀ s ∈ t.subs, P s) → P t) : ∀ t, P t := fun t =>
  Tr.rec (motive_1 := P) (motive_2 := fun l => ∀ s ∈ l, P s) (fun k r a l n m z i s ih => h (.mk k r a l n m z i s) ih) (by simp) (fun a l ha hl => by intro s hs; rcases List.mem_cons.1 hs with rfl | hs; exact ha; exact hl s hs) t
mutual
def size : Tr → Nat
  | .mk _ _ _ l _ _ _ _ _ => sizes l + 1
def sizes : List Tr → Nat
  | [] => 0
  | t :: l => size t + sizes l
end
mutual
def deep : Tr → Nat
  | .mk _ _ _ l _ _ _ _ _ => deeps l + 1
def deeps : List Tr → Nat
  | [] => 0
  | t :: l => max (deep t) (deeps l)
end
theorem size_pos (t : Tr) : 1 ≤ size t := by cases t; rw [size]; omega
theorem deep_pos (t : Tr) : 1 ≤ deep t := by cases t; rw [deep]; omega
def letterB (c : UInt8) : Bool := (decide (97 ≤ c.toNat) && decide (c.toNat ≤ 122)) || (decide (65 ≤ c.toNat) && decide (c.toNat ≤ 90)) || c.toNat == 95
def digitB (c : UInt8) : Bool := decide (48 ≤ c.toNat) && decide (c.toNat ≤ 57)
/-- Is a text a name? -/
def nameB (s : ByteArray) : Bool := decide (1 ≤ s.size) && decide (s.size ≤ 32) && (s.data.toList.all fun c => letterB c || digitB c) && !(digitB (s.data.toList.getD 0 0))
def noName (s : ByteArray) : Bool := decide (s.size = 0)
def assertB (n : Int) : Bool := n == 1 || n == 2 || n == 4 || n == 8 || n == 16 || n == 32
/-- Are all fields zero but those that are named? -/
def zeroB (r : List (Int × Int)) (a n m : Int) (z : Bool) (i : Int) (s : ByteArray) : Bool := r.isEmpty && (a == 0 && (n == 0 && (m == 0 && (!z && (i == 0 && noName s)))))
def nodeF (k : Int) (r : List (Int × Int)) (a : Int) (q : Nat) (n m : Int) (z : Bool) (i : Int) (s : ByteArray) : Bool :=
  if k = 1 then zeroB r a n m z i s && q == 0
  else if k = 2 then zeroB [] a n m z i s && (q == 0 && rightB r)
  else if k = 3 then zeroB r 0 n m z i s && (q == 0 && assertB a)
  else if k = 4 then zeroB r a n m z i s && decide (2 ≤ q)
  else if k = 5 then zeroB r a n m z i s && decide (2 ≤ q)
  else if k = 6 then zeroB r a 0 0 false i s && (q == 1 && (decide (0 ≤ n) && (decide (n ≤ 1000) && (m == -1 || (decide (n ≤ m) && decide (m ≤ 1000))))))
  else if k = 7 then zeroB r a n m z 0 .empty && (q == 1 && (decide (1 ≤ i) && (decide (i ≤ 500) && (noName s || nameB s))))
  else false
/-- May a node be, those below it apart? -/
def nodeB : Tr → Bool
  | .mk k r a l n m z i s => nodeF k r a l.length n m z i s
mutual
def allB : Tr → Bool
  | .mk k r a l n m z i s => nodeB (.mk k r a l n m z i s) && allsB l
def allsB : List Tr → Bool
  | [] => true
  | t :: l => allB t && allsB l
end
theorem allsB_iff : ∀ l : List Tr, allsB l = true ↔ ∀ t ∈ l, allB t = true
  | [] => by simp [allsB]
  | t :: l => by rw [allsB, Bool.and_eq_true, allsB_iff l]; simp
theorem allB_iff (t : Tr) : allB t = true ↔ nodeB t = true ∧ ∀ s ∈ t.subs, allB s = true := by
  cases t with
  | mk k r a l n m z i s => rw [allB, Bool.and_eq_true, allsB_iff]; rfl
def soundB (t : Tr) : Bool := allB t && decide (deep t ≤ 10000) && decide (size t ≤ 200000)
end Go.Proofs.Yteimpcjafgllpaa.Tr
namespace Go.Proofs.Yteimpcjafgllpaa
/-- Is a rune in one of the ranges? -/
def memB (l : List (Int × Int)) (r : Int) : Bool := l.any fun x => decide (x.1 ≤ r ∧ r ≤ x.2)
end Go.Proofs.Yteimpcjafgllpaa
namespace Go.Proofs.Yteimpcjafgllpaa.Mach
/-- An instruction; a program. -/
structure Ins where
  op : Int
  x : Int
  y : Int
  arg : Int
  rng : List (Int × Int)
structure Prg where
  insts : List Ins
  start : Int
  caps : Int
def isAs (a : Int) : Bool := a == 1 || a == 2 || a == 4 || a == 8 || a == 16 || a == 32
/-- May an instruction stand in a program of n, with so many captures? -/
def mayB (i : Ins) (n caps : Int) : Bool :=
  if i.op = 1 then decide (0 ≤ i.x ∧ i.x < n ∧ i.y = 0 ∧ i.arg = 0 ∧ i.rng ≠ []) && rightB i.rng
  else if i.op = 2 then decide (0 ≤ i.x ∧ i.x < n ∧ 0 ≤ i.y ∧ i.y < n ∧ i.arg = 0 ∧ i.rng = [])
  else if i.op = 3 then decide (0 ≤ i.x ∧ i.x < n ∧ i.y = 0 ∧ 0 ≤ i.arg ∧ i.arg < caps ∧ i.rng = [])
  else if i.op = 4 then decide (0 ≤ i.x ∧ i.x < n ∧ i.y = 0 ∧ i.rng = []) && isAs i.arg
  else if i.op = 5 then decide (i.x = 0 ∧ i.y = 0 ∧ 0 ≤ i.arg ∧ i.arg < 100 ∧ i.rng = [])
  else if i.op = 6 then decide (i.x = 0 ∧ i.y = 0 ∧ i.arg = 0 ∧ i.rng = [])
  else if i.op = 7 then decide (0 ≤ i.x ∧ i.x < n ∧ i.y = 0 ∧ i.arg = 0 ∧ i.rng = [])
  else false
def headB (n start caps : Int) : Bool := decide (1 ≤ n ∧ n ≤ 20000 ∧ 0 ≤ start ∧ start < n ∧ 2 ≤ caps ∧ caps ≤ 1002 ∧ caps % 2 = 0)
def checkB (p : Prg) : Bool := headB p.insts.length p.start p.caps && p.insts.all fun i => mayB i p.insts.length p.caps
/-- Which of the six assertions hold at a place; the sum of their bits. -/
def hb (t : List Int) (k : Nat) : Nat → Bool
  | 0 => decide (k = 0)
  | 1 => decide (k = t.length)
  | 2 => decide (k = 0) || t.getD (k - 1) 0 == 10
  | 3 => decide (k = t.length) || t.getD k 0 == 10
  | 4 => (!decide (k = 0) && word (t.getD (k - 1) 0)) != (!decide (k = t.length) && word (t.getD k 0))
  | _ => !((!decide (k = 0) && word (t.getD (k - 1) 0)) != (!decide (k = t.length) && word (t.getD k 0)))
def sumB (f : Nat → Bool) : Nat → Nat
  | 0 => 0
  | j + 1 => sumB f j + (if f j then 2 ^ j else 0)
theorem sumB_lt (f : Nat → Bool) : ∀ j, sumB f j < 2 ^ j
  | 0 => by simp [sumB]
  | j + 1 => by have := sumB_lt f j; rw [sumB, Nat.pow_succ]; split <;> omega
def atBits (t : List Int) (k : Nat) : Int := (sumB (hb t k) 6 : Nat)
theorem atBits_bd (t : List Int) (k : Nat) : 0 ≤ atBits t k ∧ atBits t k < 64 := by
  have := sumB_lt (hb t k) 6
  unfold atBits; omega
/-- Does one of the six assertions hold there? -/
def asB (t : List Int) (k : Nat) (a : Int) : Bool := decide (atBits t k / a % 2 = 1)
/-- What is still to be done: a pair; a capture becomes again what it was. -/
inductive Job where
  | pair (i k : Nat)
  | back (c : Nat) (old : Int)
/-- The machine: the top of what is to be done stands first; the map by instruction * places + place. -/
structure MS where
  todo : List Job
  met : List Bool
  caps : List Int
  steps : Nat
  fin : Option Int
section
variable (p : Prg) (t : List Int) (at_ : Nat)
def places : Nat := t.length - at_ + 1
def unmet (s : MS) : Nat := s.met.count false
/-- A begin: the pair of the start, no capture. -/
def begin_ (b : Nat) (met : List Bool) (steps : Nat) : MS := ⟨[.pair p.start.toNat b], met, List.replicate p.caps.toNat (-1), steps, none⟩
end
end Go.Proofs.Yteimpcjafgllpaa.Mach
namespace Go.Proofs.Yteimpcjafgllpaa.Mean
open Go.Proofs.Yteimpcjafgllpaa.Mach
/-- An unfolded tree; each node at its block. Loops: -1 x?, -2 x*, -3 x+. -/
inductive Un where
  | mk (ad : Nat) (kind : Int) (rng : List (Int × Int)) (ast ix : Int) (lz : Bool) (subs : List Un)
def Un.ad : Un → Nat | .mk a _ _ _ _ _ _ => a
def Un.kind : Un → Int | .mk _ k _ _ _ _ _ => k
def Un.rng : Un → List (Int × Int) | .mk _ _ r _ _ _ _ => r
def Un.ast : Un → Int | .mk _ _ _ a _ _ _ => a
def Un.ix : Un → Int | .mk _ _ _ _ i _ _ => i
def Un.lz : Un → Bool | .mk _ _ _ _ _ z _ => z
def Un.subs : Un → List Un | .mk _ _ _ _ _ _ l => l
/-- What comes behind a node. -/
inductive Kt where
  | top
  | row (l : List Un) (K : Kt)
  | grp (i : Int) (K : Kt)
  | dec (n : Un) (K : Kt)
/-- What is to be done. -/
inductive Task where
  | beg (n : Un) (pl : Nat) (nt : List Int) (K : Kt)
  | dcd (n : Un) (pl : Nat) (nt : List Int) (K : Kt)
  | go (K : Kt) (pl : Nat) (nt : List Int)
abbrev Mark := Nat × Nat × Bool
/-- How often a mark was come to; the parses; how often any mark was come to. -/
structure St where
  met : Mark → Nat
  out : List (Nat × List Int)
  calls : Nat
def St.mark (s : St) (m : Mark) : St := ⟨fun x => if x = m then s.met x + 1 else s.met x, s.out, s.calls + 1⟩
def rowT (l : List Un) (pl : Nat) (nt : List Int) (K : Kt) : Task :=
  match l with
  | [] => .go K pl nt
  | s :: l => .beg s pl nt (.row l K)
def choose (n : Un) (pl : Nat) (nt : List Int) (again K : Kt) : List Task :=
  match n.subs with
  | [] => []
  | s :: _ => if n.lz then [.go K pl nt, .beg s pl nt again] else [.beg s pl nt again, .go K pl nt]
section
variable (t : List Int) (at_ : Nat)
/-- What begins when a node is begun for the first time. -/
def first (n : Un) (pl : Nat) (nt : List Int) (K : Kt) : List Task :=
  if n.kind = 1 then [.go K pl nt]
  else if n.kind = 2 then (if pl < t.length ∧ memB n.rng (t.getD pl 0) = true then [.go K (pl + 1) nt] else [])
  else if n.kind = 3 then (if asB t pl n.ast then [.go K pl nt] else [])
  else if n.kind = 4 then [rowT n.subs pl nt K]
  else if n.kind = 5 then n.subs.map fun s => .beg s pl nt K
  else if n.kind = 7 then (match n.subs with | [] => [] | s :: _ => [.beg s pl (nt.set (2 * n.ix).toNat pl) (.grp n.ix K)])
  else if n.kind = -1 then choose n pl nt K K
  else if n.kind = -2 then [.dcd n pl nt K]
  else if n.kind = -3 then (match n.subs with | [] => [] | s :: _ => [.beg s pl nt (.dec n K)])
  else []
/-- A parse that ends there, if there is none yet. -/
def ended (s : St) (pl : Nat) (nt : List Int) : St :=
  if s.out.any (fun p => p.1 == pl) then s else ⟨s.met, s.out ++ [(pl, (nt.set 0 at_).set 1 pl)], s.calls⟩
/-- One task: the state behind it, and what begins. -/
def work (s : St) : Task → St × List Task
  | .beg n pl nt K => (s.mark (n.ad, pl, false), if s.met (n.ad, pl, false) = 0 then first t n pl nt K else [])
  | .dcd n pl nt K => (s.mark (n.ad, pl, true), if s.met (n.ad, pl, true) = 0 then choose n pl nt (.dec n K) K else [])
  | .go .top pl nt => (ended at_ s pl nt, [])
  | .go (.row l K) pl nt => (s, [rowT l pl nt K])
  | .go (.grp i K) pl nt => (s, [.go K pl (nt.set (2 * i + 1).toNat pl)])
  | .go (.dec n K) pl nt => (s, [.dcd n pl nt K])
mutual
/-- A task, done to its end. -/
inductive One : St → Task → St → Prop where
  | mk {s s' : St} {k : Task} : Many (work t at_ s k).1 (work t at_ s k).2 s' → One s k s'
inductive Many : St → List Task → St → Prop where
  | nil {s : St} : Many s [] s
  | cons {s s1 s2 : St} {k : Task} {l : List Task} : One s k s1 → Many s1 l s2 → Many s (k :: l) s2
end
end
mutual
def Un.all : Un → List Un
  | .mk a k r b i z l => .mk a k r b i z l :: allU l
def allU : List Un → List Un
  | [] => []
  | u :: l => u.all ++ allU l
end
theorem allU_flat : ∀ l : List Un, allU l = l.flatMap Un.all
  | [] => rfl
  | u :: l => by rw [allU, allU_flat l]; rfl
theorem all_subs (u : Un) : u.all = u :: allU u.subs := by cases u; rw [Un.all]; rfl
def Kt.uses (U : List Un) : Kt → Prop
  | .top => True
  | .row l K => (∀ s ∈ l, s ∈ U) ∧ K.uses U
  | .grp _ K => K.uses U
  | .dec n K => n ∈ U ∧ K.uses U
def Task.uses (U : List Un) (P : Nat) : Task → Prop
  | .beg n pl _ K => n ∈ U ∧ pl ≤ P ∧ K.uses U
  | .dcd n pl _ K => n ∈ U ∧ pl ≤ P ∧ K.uses U
  | .go K pl _ => K.uses U ∧ pl ≤ P
/-- Nodes whose subs are among them. -/
def Closed (U : List Un) : Prop := ∀ n ∈ U, ∀ s ∈ n.subs, s ∈ U
/-- All marks. -/
def marks (U : List Un) (P : Nat) : List Mark := U.flatMap fun n => (List.range (P + 1)).flatMap fun p => [(n.ad, p, false), (n.ad, p, true)]
def unmet (U : List Un) (P : Nat) (s : St) : Nat := (marks U P).countP fun m => decide (s.met m = 0)
theorem mark_mem {U : List Un} {P : Nat} {n : Un} (hn : n ∈ U) {pl : Nat} (hp : pl ≤ P) (b : Bool) : (n.ad, pl, b) ∈ marks U P := by
  refine List.mem_flatMap.2 ⟨n, hn, List.mem_flatMap.2 ⟨pl, List.mem_range.2 (by omega), ?_⟩⟩
  cases b <;> simp
theorem countP_less {α : Type} {l : List α} {f g : α → Bool} (h : ∀ x ∈ l, f x = true → g x = true) {m : α} (hm : m ∈ l) (hf : f m = false) (hg : g m = true) : l.countP f < l.countP g := by
  induction l with
  | nil => cases hm
  | cons a l ih =>
    rw [List.countP_cons, List.countP_cons]
    have hle : l.countP f ≤ l.countP g := List.countP_mono_left fun x hx => h x (List.mem_cons_of_mem _ hx)
    rcases List.mem_cons.1 hm with rfl | hm
    · rw [hf, hg]; simp; omega
    · have h1 := ih (fun x hx => h x (List.mem_cons_of_mem _ hx)) hm
      have h2 := h a List.mem_cons_self
      cases hfa : f a with
      | false => simp; omega
      | true => rw [h2 hfa]; simp; omega
theorem mark_zero {s : St} {m x : Mark} (h : decide ((s.mark m).met x = 0) = true) : decide (s.met x = 0) = true := by
  rw [decide_eq_true_eq] at h ⊢
  unfold St.mark at h
  simp only [] at h
  by_cases e : x = m
  · rw [if_pos e] at h; omega
  · rw [if_neg e] at h; exact h
theorem unmet_mark {U : List Un} {P : Nat} {s : St} {m : Mark} (hm : m ∈ marks U P) (h0 : s.met m = 0) : unmet U P (s.mark m) < unmet U P s := by
  exact countP_less (fun x _ hx => mark_zero hx) hm (by simp [St.mark]) (by simpa using h0)
theorem unmet_mark_le {U : List Un} {P : Nat} {s : St} {m : Mark} : unmet U P (s.mark m) ≤ unmet U P s := by
  exact List.countP_mono_left fun x _ hx => mark_zero hx
def Kt.deep : Kt → Nat
  | .top => 0
  | .row _ K => K.deep + 1
  | .grp _ K => K.deep + 1
  | .dec _ K => K.deep + 1
def Task.deep : Task → Nat
  | .beg _ _ _ _ => 0
  | .dcd _ _ _ _ => 0
  | .go K _ _ => K.deep + 1
section
variable {t : List Int} {at_ : Nat} {U : List Un}
theorem rowT_uses {l : List Un} {pl : Nat} {nt : List Int} {K : Kt} (hl : ∀ s ∈ l, s ∈ U) (hp : pl ≤ t.length) (hK : K.uses U) : (rowT l pl nt K).uses U t.length := by
  cases l with
  | nil => exact ⟨hK, hp⟩
  | cons s l => exact ⟨hl s List.mem_cons_self, hp, (⟨fun x hx => hl x (List.mem_cons_of_mem _ hx), hK⟩ : (∀ x ∈ l, x ∈ U) ∧ K.uses U)⟩
theorem choose_uses (hU : Closed U) {n : Un} (hn : n ∈ U) {pl : Nat} {nt : List Int} {again K : Kt} (hp : pl ≤ t.length) (h1 : again.uses U) (h2 : K.uses U) : ∀ k ∈ choose n pl nt again K, k.uses U t.length := by
  unfold choose
  intro k hk
  cases hs : n.subs with
  | nil => rw [hs] at hk; cases hk
  | cons s l =>
    rw [hs] at hk
    have hsu : s ∈ U := hU n hn s (by rw [hs]; exact List.mem_cons_self)
    simp only [] at hk
    split at hk <;> (simp only [List.mem_cons, List.not_mem_nil, or_false] at hk; rcases hk with rfl | rfl)
    · exact ⟨h2, hp⟩
    · exact ⟨hsu, hp, h1⟩
    · exact ⟨hsu, hp, h1⟩
    · exact ⟨h2, hp⟩
theorem first_uses (hU : Closed U) {n : Un} (hn : n ∈ U) {pl : Nat} {nt : List Int} {K : Kt} (hp : pl ≤ t.length) (hK : K.uses U) : ∀ k ∈ first t n pl nt K, k.uses U t.length := by
  have hsub := hU n hn
  unfold first
  intro k hk
  split at hk
  · simp only [List.mem_singleton] at hk; subst hk; exact ⟨hK, hp⟩
  split at hk
  · split at hk
    · rename_i h
      simp only [List.mem_singleton] at hk; subst hk; exact ⟨hK, h.1⟩
    · cases hk
  split at hk
  · split at hk
    · simp only [List.mem_singleton] at hk; subst hk; exact ⟨hK, hp⟩
    · cases hk
  split at hk
  · simp only [List.mem_singleton] at hk; subst hk; exact rowT_uses hsub hp hK
  split at hk
  · obtain ⟨s, hs, rfl⟩ := List.mem_map.1 hk
    exact ⟨hsub s hs, hp, hK⟩
  split at hk
  · split at hk
    · cases hk
    · rename_i s l hs
      simp only [List.mem_singleton] at hk; subst hk
      exact ⟨hsub s (by rw [hs]; exact List.mem_cons_self), hp, hK⟩
  split at hk
  · exact choose_uses hU hn hp hK hK k hk
  split at hk
  · simp only [List.mem_singleton] at hk; subst hk; exact ⟨hn, hp, hK⟩
  split at hk
  · split at hk
    · cases hk
    · rename_i s l hs
      simp only [List.mem_singleton] at hk; subst hk
      have h1 : s ∈ U := hsub s (by rw [hs]; exact List.mem_cons_self)
      have h2 : (Kt.dec n K).uses U := show n ∈ U ∧ K.uses U from ⟨hn, hK⟩
      exact ⟨h1, hp, h2⟩
  · cases hk
theorem work_uses (hU : Closed U) {s : St} {k : Task} (hk : k.uses U t.length) : ∀ x ∈ (work t at_ s k).2, x.uses U t.length := by
  intro x hx
  cases k with
  | beg n pl nt K =>
    simp only [work] at hx
    split at hx
    · exact first_uses hU hk.1 hk.2.1 hk.2.2 x hx
    · cases hx
  | dcd n pl nt K =>
    simp only [work] at hx
    split at hx
    · exact choose_uses (again := .dec n K) hU hk.1 hk.2.1 (show n ∈ U ∧ K.uses U from ⟨hk.1, hk.2.2⟩) hk.2.2 x hx
    · cases hx
  | go K pl nt =>
    cases K with
    | top => simp only [work] at hx; cases hx
    | row l K => simp only [work, List.mem_singleton] at hx; subst hx; exact rowT_uses hk.1.1 hk.2 hk.1.2
    | grp i K => simp only [work, List.mem_singleton] at hx; subst hx; exact ⟨hk.1, hk.2⟩
    | dec n K => simp only [work, List.mem_singleton] at hx; subst hx; exact ⟨hk.1.1, hk.2, hk.1.2⟩
theorem rowT_deep (l : List Un) (pl : Nat) (nt : List Int) (K : Kt) : (rowT l pl nt K).deep ≤ K.deep + 1 := by
  cases l with
  | nil => exact Nat.le_refl _
  | cons s l => exact Nat.zero_le _
/-- A task that begins no node or decision has tasks that go less deep. -/
theorem work_deep {s : St} {K : Kt} {pl : Nat} {nt : List Int} : unmet U t.length (work t at_ s (.go K pl nt)).1 = unmet U t.length s ∧ ∀ x ∈ (work t at_ s (.go K pl nt)).2, x.deep < (Task.go K pl nt).deep := by
  cases K with
  | top =>
    refine ⟨?_, by simp [work]⟩
    simp only [work, ended]
    split <;> rfl
  | row l K => refine ⟨rfl, fun x hx => ?_⟩; simp only [work, List.mem_singleton] at hx; subst hx; have := rowT_deep l pl nt K; show (rowT l pl nt K).deep < (K.deep + 1) + 1; omega
  | grp i K => refine ⟨rfl, fun x hx => ?_⟩; simp only [work, List.mem_singleton] at hx; subst hx; simp only [Task.deep, Kt.deep]; omega
  | dec n K => refine ⟨rfl, fun x hx => ?_⟩; simp only [work, List.mem_singleton] at hx; subst hx; simp only [Task.deep, Kt.deep]; omega
/-- Each task comes to an end; no more is unmet than before. -/
theorem one_total (hU : Closed U) : ∀ (n d : Nat) (s : St) (k : Task), unmet U t.length s ≤ n → k.deep ≤ d → k.uses U t.length → ∃ s', One t at_ s k s' ∧ unmet U t.length s' ≤ unmet U t.length s := by
  intro n
  induction n using Nat.strongRecOn with
  | ind n ihn =>
    intro d
    induction d with
    | zero =>
      intro s k hn hd hk
      -- a node or a decision
      have hmany : ∀ (l : List Task) (u : St), unmet U t.length u < n → (∀ x ∈ l, x.uses U t.length) → ∃ s', Many t at_ u l s' ∧ unmet U t.length s' ≤ unmet U t.length u := by
        intro l
        induction l with
        | nil => intro u _ _; exact ⟨u, .nil, Nat.le_refl _⟩
        | cons x l ih =>
          intro u hu hl
          obtain ⟨s1, h1, h2⟩ := ihn _ hu x.deep u x (Nat.le_refl _) (Nat.le_refl _) (hl x List.mem_cons_self)
          obtain ⟨s2, h3, h4⟩ := ih s1 (by omega) fun y hy => hl y (List.mem_cons_of_mem _ hy)
          exact ⟨s2, .cons h1 h3, by omega⟩
      have hwu := work_uses (t := t) (at_ := at_) hU (s := s) hk
      cases k with
      | go K pl nt => simp [Task.deep] at hd
      | beg m pl nt K =>
        by_cases h0 : s.met (m.ad, pl, false) = 0
        · have hlt := unmet_mark (mark_mem hk.1 hk.2.1 false) h0
          obtain ⟨s', h1, h2⟩ := hmany (work t at_ s (.beg m pl nt K)).2 (work t at_ s (.beg m pl nt K)).1 (by simp only [work]; omega) hwu
          exact ⟨s', .mk h1, by simp only [work] at h2; omega⟩
        · refine ⟨_, .mk (by simp only [work, if_neg h0]; exact .nil), unmet_mark_le⟩
      | dcd m pl nt K =>
        by_cases h0 : s.met (m.ad, pl, true) = 0
        · have hlt := unmet_mark (mark_mem hk.1 hk.2.1 true) h0
          obtain ⟨s', h1, h2⟩ := hmany (work t at_ s (.dcd m pl nt K)).2 (work t at_ s (.dcd m pl nt K)).1 (by simp only [work]; omega) hwu
          exact ⟨s', .mk h1, by simp only [work] at h2; omega⟩
        · refine ⟨_, .mk (by simp only [work, if_neg h0]; exact .nil), unmet_mark_le⟩
    | succ d ihd =>
      intro s k hn hd hk
      by_cases hd0 : k.deep ≤ d
      · exact ihd s k hn hd0 hk
      cases k with
      | beg m pl nt K => simp [Task.deep] at hd0
      | dcd m pl nt K => simp [Task.deep] at hd0
      | go K pl nt =>
        obtain ⟨hw1, hw2⟩ := work_deep (t := t) (at_ := at_) (U := U) (s := s) (K := K) (pl := pl) (nt := nt)
        have hwu := work_uses (t := t) (at_ := at_) hU (s := s) hk
        have hmany : ∀ (l : List Task) (u : St), unmet U t.length u ≤ n → (∀ x ∈ l, x.uses U t.length) → (∀ x ∈ l, x.deep ≤ d) → ∃ s', Many t at_ u l s' ∧ unmet U t.length s' ≤ unmet U t.length u := by
          intro l
          induction l with
          | nil => intro u _ _ _; exact ⟨u, .nil, Nat.le_refl _⟩
          | cons x l ih =>
            intro u hu hl hd
            obtain ⟨s1, h1, h2⟩ := ihd u x hu (hd x List.mem_cons_self) (hl x List.mem_cons_self)
            obtain ⟨s2, h3, h4⟩ := ih s1 (by omega) (fun y hy => hl y (List.mem_cons_of_mem _ hy)) fun y hy => hd y (List.mem_cons_of_mem _ hy)
            exact ⟨s2, .cons h1 h3, by omega⟩
        obtain ⟨s', h1, h2⟩ := hmany _ (work t at_ s (.go K pl nt)).1 (by omega) hwu fun x hx => by have := hw2 x hx; omega
        exact ⟨s', .mk h1, by omega⟩
/-- How many tasks begin. -/
theorem first_len {M : Nat} (hM : 2 ≤ M) {n : Un} (hn : n.subs.length ≤ M) (pl : Nat) (nt : List Int) (K : Kt) : (first t n pl nt K).length ≤ M := by
  have hc : ∀ again : Kt, (choose n pl nt again K).length ≤ M := fun again => by
    unfold choose
    split
    · simp
    · split <;> (simp only [List.length_cons, List.length_nil]; omega)
  unfold first
  repeat' split
  all_goals first | exact hc _ | (simp only [List.length_cons, List.length_nil, List.length_map]; omega)
theorem choose_len {M : Nat} (hM : 2 ≤ M) (n : Un) (pl : Nat) (nt : List Int) (again K : Kt) : (choose n pl nt again K).length ≤ M := by
  unfold choose
  split
  · simp
  · split <;> (simp only [List.length_cons, List.length_nil]; omega)
mutual
/-- What is come to at most. -/
theorem one_calls (hU : Closed U) {M : Nat} (hM : 2 ≤ M) (hl : ∀ n ∈ U, n.subs.length ≤ M) : ∀ {s s' : St} {k : Task}, One t at_ s k s' → k.uses U t.length → s'.calls + M * unmet U t.length s' ≤ s.calls + M * unmet U t.length s + 1
  | s, s', k, .mk h, hk => by
    have hm := many_calls hU hM hl h (work_uses hU hk)
    cases k with
    | go K pl nt =>
      cases K with
      | top =>
        simp only [work, ended, List.length_nil] at hm
        split at hm <;> (simp only [unmet] at hm ⊢; omega)
      | row l K => simp only [work, List.length_cons, List.length_nil] at hm; omega
      | grp i K => simp only [work, List.length_cons, List.length_nil] at hm; omega
      | dec n K => simp only [work, List.length_cons, List.length_nil] at hm; omega
    | beg n pl nt K =>
      simp only [work] at hm
      by_cases h0 : s.met (n.ad, pl, false) = 0
      · rw [if_pos h0] at hm
        have h1 := unmet_mark (mark_mem hk.1 hk.2.1 false) h0
        have h2 := first_len (t := t) hM (hl n hk.1) pl nt K
        have h3 : M * (unmet U t.length (s.mark (n.ad, pl, false)) + 1) ≤ M * unmet U t.length s := Nat.mul_le_mul_left _ h1
        rw [Nat.mul_succ] at h3
        have h4 : (s.mark (n.ad, pl, false)).calls = s.calls + 1 := rfl
        omega
      · rw [if_neg h0] at hm
        have h3 : M * unmet U t.length (s.mark (n.ad, pl, false)) ≤ M * unmet U t.length s := Nat.mul_le_mul_left _ unmet_mark_le
        have h4 : (s.mark (n.ad, pl, false)).calls = s.calls + 1 := rfl
        simp only [List.length_nil] at hm
        omega
    | dcd n pl nt K =>
      simp only [work] at hm
      by_cases h0 : s.met (n.ad, pl, true) = 0
      · rw [if_pos h0] at hm
        have h1 := unmet_mark (mark_mem hk.1 hk.2.1 true) h0
        have h2 := choose_len hM n pl nt (.dec n K) K
        have h3 : M * (unmet U t.length (s.mark (n.ad, pl, true)) + 1) ≤ M * unmet U t.length s := Nat.mul_le_mul_left _ h1
        rw [Nat.mul_succ] at h3
        have h4 : (s.mark (n.ad, pl, true)).calls = s.calls + 1 := rfl
        omega
      · rw [if_neg h0] at hm
        have h3 : M * unmet U t.length (s.mark (n.ad, pl, true)) ≤ M * unmet U t.length s := Nat.mul_le_mul_left _ unmet_mark_le
        have h4 : (s.mark (n.ad, pl, true)).calls = s.calls + 1 := rfl
        simp only [List.length_nil] at hm
        omega
theorem many_calls (hU : Closed U) {M : Nat} (hM : 2 ≤ M) (hl : ∀ n ∈ U, n.subs.length ≤ M) : ∀ {s s' : St} {l : List Task}, Many t at_ s l s' → (∀ k ∈ l, k.uses U t.length) → s'.calls + M * unmet U t.length s' ≤ s.calls + M * unmet U t.length s + l.length
  | s, _, [], .nil, _ => Nat.le_refl _
  | s, s', k :: l, .cons h1 h2, hk => by
    have e1 := one_calls hU hM hl h1 (hk k List.mem_cons_self)
    have e2 := many_calls hU hM hl h2 fun x hx => hk x (List.mem_cons_of_mem _ hx)
    rw [List.length_cons]
    omega
end
end
end Go.Proofs.Yteimpcjafgllpaa.Mean
namespace Go.Proofs.Yteimpcjafgllpaa.Mach
section
variable (p : Prg) (t : List Int) (at_ : Nat)
def JobOk : Job → Prop
  | .pair i k => i < p.insts.length ∧ at_ ≤ k ∧ k ≤ t.length
  | .back c _ => c < p.caps.toNat
structure Ok (s : MS) : Prop where
  met : s.met.length = p.insts.length * places t at_
  caps : s.caps.length = p.caps.toNat
  jobs : ∀ j ∈ s.todo, JobOk p t at_ j
  room : 3 * unmet s + s.todo.length ≤ 3 * s.met.length + 2
  steps : s.steps + unmet s ≤ s.met.length
variable {p t at_}
theorem toNat_lt {x : Int} {n : Nat} (h0 : 0 ≤ x) (h : x < n) : x.toNat < n := by omega
/-- At a begin. -/
theorem Ok.start (hc : checkB p = true) (hat : at_ ≤ t.length) {b : Nat} (hb : at_ ≤ b ∧ b ≤ t.length) {met : List Bool} {steps : Nat} (hm : met.length = p.insts.length * places t at_) (hs : steps + met.count false ≤ met.length) :
    Ok p t at_ (begin_ p b met steps) := by
  unfold checkB headB at hc
  simp only [Bool.and_eq_true, decide_eq_true_eq] at hc
  have := hc.1
  have hcle : met.count false ≤ met.length := List.count_le_length
  refine ⟨hm, by simp [begin_], ?_, ?_, hs⟩
  · intro j hj
    simp only [begin_, List.mem_singleton] at hj
    subst hj
    exact ⟨by omega, hb⟩
  · simp only [begin_, unmet, List.length_cons, List.length_nil]; omega
end
end Go.Proofs.Yteimpcjafgllpaa.Mach
