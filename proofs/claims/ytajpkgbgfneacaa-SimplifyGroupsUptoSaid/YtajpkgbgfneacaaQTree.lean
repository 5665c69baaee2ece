/- Trees of patterns: their sizes, which are sound, their simple forms. No program here. -/
import Derived.Test.YtajpkgbgfneacaaQRight
namespace Go.Proofs.Ytajpkgbgfneacaa.Tr

/-- A node. -/
inductive Tr where
  | mk (kind : Int) (rng : List (Int × Int)) (ast : Int) (subs : List Tr) (mn mx : Int) (lz : Bool) (ix : Int) (nm : ByteArray)
def Tr.kind : Tr → Int | .mk k _ _ _ _ _ _ _ _ => k
def Tr.rng : Tr → List (Int × Int) | .mk _ r _ _ _ _ _ _ _ => r
def Tr.ast : Tr → Int | .mk _ _ a _ _ _ _ _ _ => a
def Tr.subs : Tr → List Tr | .mk _ _ _ s _ _ _ _ _ => s
def Tr.mn : Tr → Int | .mk _ _ _ _ n _ _ _ _ => n
def Tr.mx : Tr → Int | .mk _ _ _ _ _ m _ _ _ => m
def Tr.lz : Tr → Bool | .mk _ _ _ _ _ _ z _ _ => z
def Tr.ix : Tr → Int | .mk _ _ _ _ _ _ _ i _ => i
def Tr.nm : Tr → ByteArray | .mk _ _ _ _ _ _ _ _ s => s
theorem Tr.ind {P : Tr → Prop} (h : ∀ t, (∀ s ∈ t.subs, P s) → P t) : ∀ t, P t := fun t =>
  Tr.rec (motive_1 := P) (motive_2 := fun l => ∀ s ∈ l, P s) (fun k r a l n m z i s ih => h (.mk k r a l n m z i s) ih) (by simp) (fun a l ha hl => by intro s hs; rcases List.mem_cons.1 hs with rfl | hs; exact ha; exact hl s hs) t

/-! ### how many nodes -/
mutual
def size : Tr → Nat
  | .mk _ _ _ l _ _ _ _ _ => sizes l + 1
def sizes : List Tr → Nat
  | [] => 0
  | t :: l => size t + sizes l
end
mutual
def deep : Tr → Nat
  | .mk _ _ _ l _ _ _ _ _ => deeps l + 1
def deeps : List Tr → Nat
  | [] => 0
  | t :: l => max (deep t) (deeps l)
end
theorem size_pos (t : Tr) : 1 ≤ size t := by cases t; rw [size]; omega
theorem deep_pos (t : Tr) : 1 ≤ deep t := by cases t; rw [deep]; omega
theorem deep_le_size : ∀ t : Tr, deep t ≤ size t := by
  intro t
  induction t using Tr.ind with
  | h t ih =>
    cases t with
    | mk k r a l n m z i s =>
      rw [deep, size]
      suffices deeps l ≤ sizes l by omega
      simp only [Tr.subs] at ih
      clear k r a n m z i s
      induction l with
      | nil => simp [deeps, sizes]
      | cons t l hl =>
        have h1 := ih t List.mem_cons_self
        have h2 := hl fun s hs => ih s (List.mem_cons_of_mem _ hs)
        rw [deeps, sizes]
        omega
/-- What great gives. -/
def greatS (t : Tr) (left : Int) : Int := if left < size t then (if left - (size t : Int) < -1 then -1 else left - size t) else left - size t

/-! ### which are sound -/
def letterB (c : UInt8) : Bool := (decide (97 ≤ c.toNat) && decide (c.toNat ≤ 122)) || (decide (65 ≤ c.toNat) && decide (c.toNat ≤ 90)) || c.toNat == 95
def digitB (c : UInt8) : Bool := decide (48 ≤ c.toNat) && decide (c.toNat ≤ 57)
/-- Is a text a name? -/
def nameB (s : ByteArray) : Bool := decide (1 ≤ s.size) && decide (s.size ≤ 32) && (s.data.toList.all fun c => letterB c || digitB c) && !(digitB (s.data.toList.getD 0 0))
def noName (s : ByteArray) : Bool := decide (s.size = 0)
def assertB (n : Int) : Bool := n == 1 || n == 2 || n == 4 || n == 8 || n == 16 || n == 32
/-- Are all fields zero but those that are named? -/
def zeroB (r : List (Int × Int)) (a n m : Int) (z : Bool) (i : Int) (s : ByteArray) : Bool := r.isEmpty && (a == 0 && (n == 0 && (m == 0 && (!z && (i == 0 && noName s)))))
def nodeF (k : Int) (r : List (Int × Int)) (a : Int) (q : Nat) (n m : Int) (z : Bool) (i : Int) (s : ByteArray) : Bool :=
  if k = 1 then zeroB r a n m z i s && q == 0
  else if k = 2 then zeroB [] a n m z i s && (q == 0 && rightB r)
  else if k = 3 then zeroB r 0 n m z i s && (q == 0 && assertB a)
  else if k = 4 then zeroB r a n m z i s && decide (2 ≤ q)
  else if k = 5 then zeroB r a n m z i s && decide (2 ≤ q)
  else if k = 6 then zeroB r a 0 0 false i s && (q == 1 && (decide (0 ≤ n) && (decide (n ≤ 1000) && (m == -1 || (decide (n ≤ m) && decide (m ≤ 1000))))))
  else if k = 7 then zeroB r a n m z 0 .empty && (q == 1 && (decide (1 ≤ i) && (decide (i ≤ 500) && (noName s || nameB s))))
  else false
/-- May a node be, those below it apart? -/
def nodeB : Tr → Bool
  | .mk k r a l n m z i s => nodeF k r a l.length n m z i s
mutual
def allB : Tr → Bool
  | .mk k r a l n m z i s => nodeB (.mk k r a l n m z i s) && allsB l
def allsB : List Tr → Bool
  | [] => true
  | t :: l => allB t && allsB l
end
theorem allsB_iff : ∀ l : List Tr, allsB l = true ↔ ∀ t ∈ l, allB t = true
  | [] => by simp [allsB]
  | t :: l => by rw [allsB, Bool.and_eq_true, allsB_iff l]; simp
theorem allB_iff (t : Tr) : allB t = true ↔ nodeB t = true ∧ ∀ s ∈ t.subs, allB s = true := by
  cases t with
  | mk k r a l n m z i s => rw [allB, Bool.and_eq_true, allsB_iff]; rfl
def soundB (t : Tr) : Bool := allB t && decide (deep t ≤ 10000) && decide (size t ≤ 200000)
end Go.Proofs.Ytajpkgbgfneacaa.Tr
