/- Trees of patterns: their sizes, which are sound, their simple forms. No program here. -/
import Derived.Test.YtjeljlgjkjeloaaQFlat
import Derived.Test.YtjeljlgjkjeloaaQMem
namespace Go.Proofs.Ytjeljlgjkjeloaa.Tr

/-- A node. -/
inductive Tr where
  | mk (kind : Int) (rng : List (Int × Int)) (ast : Int) (subs : List Tr) (mn mx : Int) (lz : Bool) (ix : Int) (nm : ByteArray)
def Tr.kind : Tr → Int | .mk k _ _ _ _ _ _ _ _ => k
def Tr.rng : Tr → List (Int × Int) | .mk _ r _ _ _ _ _ _ _ => r
def Tr.ast : Tr → Int | .mk _ _ a _ _ _ _ _ _ => a
def Tr.subs : Tr → List Tr | .mk _ _ _ s _ _ _ _ _ => s
def Tr.mn : Tr → Int | .mk _ _ _ _ n _ _ _ _ => n
def Tr.mx : Tr → Int | .mk _ _ _ _ _ m _ _ _ => m
def Tr.lz : Tr → Bool | .mk _ _ _ _ _ _ z _ _ => z
def Tr.ix : Tr → Int | .mk _ _ _ _ _ _ _ i _ => i
def Tr.nm : Tr → ByteArray | .mk _ _ _ _ _ _ _ _ s => s
theorem Tr.ind {P : Tr → Prop} (h : ∀ t, (∀ s ∈ t.subs, P s) → P t) : ∀ t, P t := fun t =>
  Tr.rec (motive_1 := P) (motive_2 := fun l => ∀ s ∈ l, P s) (fun k r a l n m z i s ih => h (.mk k r a l n m z i s) ih) (by simp) (fun a l ha hl => by intro s hs; rcases List.mem_cons.1 hs with rfl | hs; exact ha; exact hl s hs) t

/-! ### how many nodes -/
mutual
def size : Tr → Nat
  | .mk _ _ _ l _ _ _ _ _ => sizes l + 1
def sizes : List Tr → Nat
  | [] => 0
  | t :: l => size t + sizes l
end
mutual
def deep : Tr → Nat
  | .mk _ _ _ l _ _ _ _ _ => deeps l + 1
def deeps : List Tr → Nat
  | [] => 0
  | t :: l => max (deep t) (deeps l)
end
theorem size_pos (t : Tr) : 1 ≤ size t := by cases t; rw [size]; omega
theorem deep_pos (t : Tr) : 1 ≤ deep t := by cases t; rw [deep]; omega
theorem deep_le_size : ∀ t : Tr, deep t ≤ size t := by
  intro t
  induction t using Tr.ind with
  | h t ih =>
    cases t with
    | mk k r a l n m z i s =>
      rw [deep, size]
      suffices deeps l ≤ sizes l by omega
      simp only [Tr.subs] at ih
      clear k r a n m z i s
      induction l with
      | nil => simp [deeps, sizes]
      | cons t l hl =>
        have h1 := ih t List.mem_cons_self
        have h2 := hl fun s hs => ih s (List.mem_cons_of_mem _ hs)
        rw [deeps, sizes]
        omega
/-- What great gives. -/
def greatS (t : Tr) (left : Int) : Int := if left < size t then (if left - (size t : Int) < -1 then -1 else left - size t) else left - size t

/-! ### which are sound -/
def letterB (c : UInt8) : Bool := (decide (97 ≤ c.toNat) && decide (c.toNat ≤ 122)) || (decide (65 ≤ c.toNat) && decide (c.toNat ≤ 90)) || c.toNat == 95
def digitB (c : UInt8) : Bool := decide (48 ≤ c.toNat) && decide (c.toNat ≤ 57)
/-- Is a text a name? -/
def nameB (s : ByteArray) : Bool := decide (1 ≤ s.size) && decide (s.size ≤ 32) && (s.data.toList.all fun c => letterB c || digitB c) && !(digitB (s.data.toList.getD 0 0))
def noName (s : ByteArray) : Bool := decide (s.size = 0)
def assertB (n : Int) : Bool := n == 1 || n == 2 || n == 4 || n == 8 || n == 16 || n == 32
/-- Are all fields zero but those that are named? -/
def zeroB (r : List (Int × Int)) (a n m : Int) (z : Bool) (i : Int) (s : ByteArray) : Bool := r.isEmpty && (a == 0 && (n == 0 && (m == 0 && (!z && (i == 0 && noName s)))))
def nodeF (k : Int) (r : List (Int × Int)) (a : Int) (q : Nat) (n m : Int) (z : Bool) (i : Int) (s : ByteArray) : Bool :=
  if k = 1 then zeroB r a n m z i s && q == 0
  else if k = 2 then zeroB [] a n m z i s && (q == 0 && rightB r)
  else if k = 3 then zeroB r 0 n m z i s && (q == 0 && assertB a)
  else if k = 4 then zeroB r a n m z i s && decide (2 ≤ q)
  else if k = 5 then zeroB r a n m z i s && decide (2 ≤ q)
  else if k = 6 then zeroB r a 0 0 false i s && (q == 1 && (decide (0 ≤ n) && (decide (n ≤ 1000) && (m == -1 || (decide (n ≤ m) && decide (m ≤ 1000))))))
  else if k = 7 then zeroB r a n m z 0 .empty && (q == 1 && (decide (1 ≤ i) && (decide (i ≤ 500) && (noName s || nameB s))))
  else false
/-- May a node be, those below it apart? -/
def nodeB : Tr → Bool
  | .mk k r a l n m z i s => nodeF k r a l.length n m z i s
mutual
def allB : Tr → Bool
  | .mk k r a l n m z i s => nodeB (.mk k r a l n m z i s) && allsB l
def allsB : List Tr → Bool
  | [] => true
  | t :: l => allB t && allsB l
end
theorem allsB_iff : ∀ l : List Tr, allsB l = true ↔ ∀ t ∈ l, allB t = true
  | [] => by simp [allsB]
  | t :: l => by rw [allsB, Bool.and_eq_true, allsB_iff l]; simp
theorem allB_iff (t : Tr) : allB t = true ↔ nodeB t = true ∧ ∀ s ∈ t.subs, allB s = true := by
  cases t with
  | mk k r a l n m z i s => rw [allB, Bool.and_eq_true, allsB_iff]; rfl
def soundB (t : Tr) : Bool := allB t && decide (deep t ≤ 10000) && decide (size t ≤ 200000)
end Go.Proofs.Ytjeljlgjkjeloaa.Tr
/- Trees in memory. No program here. -/
namespace Go.Proofs.Ytjeljlgjkjeloaa
open Go.RowKit

/-- A tree, and where its lists stand. -/
inductive Ta where
  | mk (kind : Int) (rng : List (Int × Int)) (ra : Option Addr) (rc : Nat) (ast : Int) (subs : List Ta) (sa : Option Addr) (sc : Nat) (mn mx : Int) (lz : Bool) (ix : Int) (nm : ByteArray)
def Ta.subs : Ta → List Ta | .mk _ _ _ _ _ l _ _ _ _ _ _ _ => l
def Ta.vals : Ta → List Value | .mk k r ra rc a l sa sc n m z i s => [.int .i64 k, .slice ra r.length rc, .int .i64 a, .slice sa l.length sc, .int .i64 n, .int .i64 m, .bool z, .int .i64 i, .string s]
def Ta.val (t : Ta) : Value := .agg t.vals.toArray
def rowT (l : List Ta) : List Value := l.flatMap Ta.vals
theorem Ta.vals_length (t : Ta) : t.vals.length = 9 := by cases t; rfl
theorem rowT_length : ∀ l : List Ta, (rowT l).length = l.length * 9
  | [] => rfl
  | t :: l => by
    have ih := rowT_length l
    unfold rowT at ih ⊢
    rw [List.flatMap_cons, List.length_append, Ta.vals_length, ih, List.length_cons]; omega
theorem rowT_append (a b : List Ta) : rowT (a ++ b) = rowT a ++ rowT b := by unfold rowT; rw [List.flatMap_append]
theorem rowT_cons (t : Ta) (l : List Ta) : rowT (t :: l) = t.vals ++ rowT l := rfl
theorem rowT_get : ∀ (l : List Ta) (j q : Nat) (t : Ta), l[j]? = some t → q < 9 → (rowT l)[j * 9 + q]? = t.vals[q]?
  | [], j, q, t, h, _ => by simp at h
  | u :: l, 0, q, t, h, hq => by
    simp only [List.getElem?_cons_zero, Option.some.injEq] at h
    subst h
    rw [rowT_cons, Nat.zero_mul, Nat.zero_add]
    exact List.getElem?_append_left (by rw [Ta.vals_length]; exact hq)
  | u :: l, j + 1, q, t, h, hq => by
    have := rowT_get l j q t (by simpa using h) hq
    have e1 : (j + 1) * 9 + q = 9 + (j * 9 + q) := by omega
    rw [e1, rowT_cons, List.getElem?_append_right (by rw [Ta.vals_length]; omega), Ta.vals_length, ← this]
    simp
theorem Ta.ind {P : Ta → Prop} (h : ∀ t, (∀ s ∈ t.subs, P s) → P t) : ∀ t, P t := fun t =>
  Ta.rec (motive_1 := P) (motive_2 := fun l => ∀ s ∈ l, P s) (fun k r ra rc a l sa sc n m z i s ih => h (.mk k r ra rc a l sa sc n m z i s) ih) (by simp) (fun a l ha hl => by intro s hs; rcases List.mem_cons.1 hs with rfl | hs; exact ha; exact hl s hs) t
mutual
/-- The tree alone. -/
def Ta.tr : Ta → Tr.Tr
  | .mk k r _ _ a l _ _ n m z i s => .mk k r a (trs l) n m z i s
def trs : List Ta → List Tr.Tr
  | [] => []
  | t :: l => t.tr :: trs l
end
theorem trs_map : ∀ l : List Ta, trs l = l.map Ta.tr
  | [] => rfl
  | t :: l => by rw [trs, trs_map l]; rfl
theorem trs_length (l : List Ta) : (trs l).length = l.length := by rw [trs_map, List.length_map]
theorem Ta.tr_subs (t : Ta) : t.tr.subs = t.subs.map Ta.tr := by cases t; rw [Ta.tr, trs_map]; rfl

/-- A slice reads as cells, in blocks of S. -/
def RdA (w : World) (S : Nat → Prop) (size : Nat) (A : Option Addr) (n c : Nat) (xs : List Value) : Prop :=
  n ≤ c ∧ c ≤ 9223372036854775807 ∧ xs.length = n * size ∧ (A = none → c = 0) ∧ (0 < n → ∃ b off, A = some ⟨b, off, none⟩ ∧ S b ∧ ∀ j u, xs[j]? = some u → w.cell? ⟨b, off + j, none⟩ = some u)
mutual
def RT (w : World) (S : Nat → Prop) : Ta → Prop
  | .mk _ r ra rc _ l sa sc _ _ _ _ s => (RdA w S 2 ra r.length rc (flat r) ∧ r.length ≤ 1048576 ∧ l.length ≤ 1048576 ∧ s.size ≤ 1048576) ∧ RdA w S 9 sa l.length sc (rowT l) ∧ RTs w S l
def RTs (w : World) (S : Nat → Prop) : List Ta → Prop
  | [] => True
  | t :: l => RT w S t ∧ RTs w S l
end
theorem RTs_iff {w : World} {S : Nat → Prop} : ∀ l : List Ta, RTs w S l ↔ ∀ t ∈ l, RT w S t
  | [] => by simp [RTs]
  | t :: l => by rw [RTs, RTs_iff l]; simp
section
variable {w w' : World} {S S' : Nat → Prop} {size n c B : Nat} {A : Option Addr} {xs : List Value} {t : Ta} {l : List Ta}
theorem RdA.reads (h : RdA w S size A n c xs) (hS : ∀ b, S b → b < B) : Reads w B size A n c xs :=
  ⟨h.1, h.2.1, h.2.2.1, fun hn => by
    obtain ⟨b, off, e, hb, hc⟩ := h.2.2.2.2 hn
    exact ⟨b, off, e, hS b hb, hc⟩⟩
theorem RdA.of_reads (h : Reads w B size A n c xs) (hA : A = none → c = 0) : RdA w (· < B) size A n c xs := ⟨h.1, h.2.1, h.2.2.1, hA, h.2.2.2⟩
theorem RdA.mono (h : RdA w S size A n c xs) (hS : ∀ b, S b → S' b) : RdA w S' size A n c xs :=
  ⟨h.1, h.2.1, h.2.2.1, h.2.2.2.1, fun hn => by
    obtain ⟨b, off, e, hb, hc⟩ := h.2.2.2.2 hn
    exact ⟨b, off, e, hS b hb, hc⟩⟩
theorem RdA.go (h : RdA w S size A n c xs) (hS : ∀ b, S b → w'.heap[b]? = w.heap[b]?) : RdA w' S size A n c xs :=
  ⟨h.1, h.2.1, h.2.2.1, h.2.2.2.1, fun hn => by
    obtain ⟨b, off, e, hb, hc⟩ := h.2.2.2.2 hn
    exact ⟨b, off, e, hb, fun j u hu => (World.cell?_of_block (a := ⟨b, off + j, none⟩) (hS b hb)).trans (hc j u hu)⟩⟩
theorem RdA.none_ : RdA w S size none 0 0 [] := ⟨Nat.le_refl _, by omega, by simp, fun _ => rfl, fun h => absurd h (by omega)⟩
theorem RT.parts {k : Int} {r : List (Int × Int)} {ra : Option Addr} {rc : Nat} {a : Int} {sa : Option Addr} {sc : Nat} {mn mx : Int} {z : Bool} {i : Int} {s : ByteArray} (h : RT w S (.mk k r ra rc a l sa sc mn mx z i s)) :
    (RdA w S 2 ra r.length rc (flat r) ∧ r.length ≤ 1048576 ∧ l.length ≤ 1048576 ∧ s.size ≤ 1048576) ∧ RdA w S 9 sa l.length sc (rowT l) ∧ ∀ t ∈ l, RT w S t := by
  rw [RT, RTs_iff] at h; exact h
theorem RT.of {k : Int} {r : List (Int × Int)} {ra : Option Addr} {rc : Nat} {a : Int} {sa : Option Addr} {sc : Nat} {mn mx : Int} {z : Bool} {i : Int} {s : ByteArray}
    (h1 : RdA w S 2 ra r.length rc (flat r) ∧ r.length ≤ 1048576 ∧ l.length ≤ 1048576 ∧ s.size ≤ 1048576) (h2 : RdA w S 9 sa l.length sc (rowT l)) (h3 : ∀ t ∈ l, RT w S t) : RT w S (.mk k r ra rc a l sa sc mn mx z i s) := by
  rw [RT, RTs_iff]; exact ⟨h1, h2, h3⟩
theorem RT.mono (h : RT w S t) (hS : ∀ b, S b → S' b) : RT w S' t := by
  induction t using Ta.ind with
  | h t ih =>
    cases t with
    | mk k r ra rc a l sa sc n m z i s =>
      obtain ⟨h1, h2, h3⟩ := h.parts
      exact RT.of ⟨h1.1.mono hS, h1.2⟩ (h2.mono hS) fun t ht => ih t ht (h3 t ht)
theorem RT.go (h : RT w S t) (hS : ∀ b, S b → w'.heap[b]? = w.heap[b]?) : RT w' S t := by
  induction t using Ta.ind with
  | h t ih =>
    cases t with
    | mk k r ra rc a l sa sc n m z i s =>
      obtain ⟨h1, h2, h3⟩ := h.parts
      exact RT.of ⟨h1.1.go hS, h1.2⟩ (h2.go hS) fun t ht => ih t ht (h3 t ht)
theorem RT.sub (h : RT w S t) : ∀ s ∈ t.subs, RT w S s := by
  cases t with
  | mk k r ra rc a l sa sc n m z i s => exact h.parts.2.2
/-- What lies below B stays. -/
theorem RT.below (h : RT w S t) (hS : ∀ b, S b → b < B) (hb : Below B w w') : RT w' S t := h.go fun b hb' => hb.block b (hS b hb')
theorem RT.drewN (h : RT w S t) (k : Nat) : RT (w.drewN k) S t := h.go fun _ _ => rfl
end
/-- Blocks that were there, but those of L. -/
def Off (w : World) (L : List Nat) : Nat → Prop := fun b => b < w.heap.size ∧ b ∉ L
section
variable {w w' : World} {L M : List Nat} {t : Ta}
/-- Writes to M: what does not read there stays, and what is new is not of M. -/
theorem RT.kept (h : RT w (Off w L) t) (k : Kept w w' M) (hM : ∀ b ∈ M, b ∈ L ∨ w.heap.size ≤ b) {L' : List Nat} (hL : ∀ b ∈ L', b ∈ L ∨ w.heap.size ≤ b) : RT w' (Off w' L') t := by
  refine (h.go fun b hb => k.block b hb.1 fun hm => ?_).mono fun b hb => ⟨Nat.lt_of_lt_of_le hb.1 k.size, fun hm => ?_⟩
  · rcases hM b hm with e | e
    · exact hb.2 e
    · exact absurd hb.1 (by omega)
  · rcases hL b hm with e | e
    · exact hb.2 e
    · exact absurd hb.1 (by omega)
end
end Go.Proofs.Ytjeljlgjkjeloaa
