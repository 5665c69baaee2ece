/- Trees in memory. No program here. -/
import Derived.Test.YtajpkgbgfneacaaQTree
import Derived.Test.YtajpkgbgfneacaaQMem
import Derived.Test.YtajpkgbgfneacaaQFlat
namespace Go.Proofs.Ytajpkgbgfneacaa
open Go.RowKit

/-- A tree, and where its lists stand. -/
inductive Ta where
  | mk (kind : Int) (rng : List (Int × Int)) (ra : Option Addr) (rc : Nat) (ast : Int) (subs : List Ta) (sa : Option Addr) (sc : Nat) (mn mx : Int) (lz : Bool) (ix : Int) (nm : ByteArray)
def Ta.subs : Ta → List Ta | .mk _ _ _ _ _ l _ _ _ _ _ _ _ => l
def Ta.vals : Ta → List Value | .mk k r ra rc a l sa sc n m z i s => [.int .i64 k, .slice ra r.length rc, .int .i64 a, .slice sa l.length sc, .int .i64 n, .int .i64 m, .bool z, .int .i64 i, .string s]
def Ta.val (t : Ta) : Value := .agg t.vals.toArray
def rowT (l : List Ta) : List Value := l.flatMap Ta.vals
theorem Ta.vals_length (t : Ta) : t.vals.length = 9 := by cases t; rfl
theorem rowT_length : ∀ l : List Ta, (rowT l).length = l.length * 9
  | [] => rfl
  | t :: l => by
    have ih := rowT_length l
    unfold rowT at ih ⊢
    rw [List.flatMap_cons, List.length_append, Ta.vals_length, ih, List.length_cons]; omega
theorem rowT_append (a b : List Ta) : rowT (a ++ b) = rowT a ++ rowT b := by unfold rowT; rw [List.flatMap_append]
theorem rowT_cons (t : Ta) (l : List Ta) : rowT (t :: l) = t.vals ++ rowT l := rfl
theorem rowT_get : ∀ (l : List Ta) (j q : Nat) (t : Ta), l[j]? = some t → q < 9 → (rowT l)[j * 9 + q]? = t.vals[q]?
  | [], j, q, t, h, _ => by simp at h
  | u :: l, 0, q, t, h, hq => by
    simp only [List.getElem?_cons_zero, Option.some.injEq] at h
    subst h
    rw [rowT_cons, Nat.zero_mul, Nat.zero_add]
    exact List.getElem?_append_left (by rw [Ta.vals_length]; exact hq)
  | u :: l, j + 1, q, t, h, hq => by
    have := rowT_get l j q t (by simpa using h) hq
    have e1 : (j + 1) * 9 + q = 9 + (j * 9 + q) := by omega
    rw [e1, rowT_cons, List.getElem?_append_right (by rw [Ta.vals_length]; omega), Ta.vals_length, ← this]
    simp
theorem Ta.ind {P : Ta → Prop} (h : ∀ t, (∀ s ∈ t.subs, P s) → P t) : ∀ t, P t := fun t =>
  Ta.rec (motive_1 := P) (motive_2 := fun l => ∀ s ∈ l, P s) (fun k r ra rc a l sa sc n m z i s ih => h (.mk k r ra rc a l sa sc n m z i s) ih) (by simp) (fun a l ha hl => by intro s hs; rcases List.mem_cons.1 hs with rfl | hs; exact ha; exact hl s hs) t
mutual
/-- The tree alone. -/
def Ta.tr : Ta → Tr.Tr
  | .mk k r _ _ a l _ _ n m z i s => .mk k r a (trs l) n m z i s
def trs : List Ta → List Tr.Tr
  | [] => []
  | t :: l => t.tr :: trs l
end
theorem trs_map : ∀ l : List Ta, trs l = l.map Ta.tr
  | [] => rfl
  | t :: l => by rw [trs, trs_map l]; rfl
theorem trs_length (l : List Ta) : (trs l).length = l.length := by rw [trs_map, List.length_map]
theorem Ta.tr_subs (t : Ta) : t.tr.subs = t.subs.map Ta.tr := by cases t; rw [Ta.tr, trs_map]; rfl

/-- A slice reads as cells, in blocks of S. -/
def RdA (w : World) (S : Nat → Prop) (size : Nat) (A : Option Addr) (n c : Nat) (xs : List Value) : Prop :=
  n ≤ c ∧ c ≤ 9223372036854775807 ∧ xs.length = n * size ∧ (A = none → c = 0) ∧ (0 < n → ∃ b off, A = some ⟨b, off, none⟩ ∧ S b ∧ ∀ j u, xs[j]? = some u → w.cell? ⟨b, off + j, none⟩ = some u)
mutual
def RT (w : World) (S : Nat → Prop) : Ta → Prop
  | .mk _ r ra rc _ l sa sc _ _ _ _ s => (RdA w S 2 ra r.length rc (flat r) ∧ r.length ≤ 1048576 ∧ l.length ≤ 1048576 ∧ s.size ≤ 1048576) ∧ RdA w S 9 sa l.length sc (rowT l) ∧ RTs w S l
def RTs (w : World) (S : Nat → Prop) : List Ta → Prop
  | [] => True
  | t :: l => RT w S t ∧ RTs w S l
end
theorem RTs_iff {w : World} {S : Nat → Prop} : ∀ l : List Ta, RTs w S l ↔ ∀ t ∈ l, RT w S t
  | [] => by simp [RTs]
  | t :: l => by rw [RTs, RTs_iff l]; simp
section
variable {w w' : World} {S S' : Nat → Prop} {size n c B : Nat} {A : Option Addr} {xs : List Value} {t : Ta} {l : List Ta}
theorem RdA.reads (h : RdA w S size A n c xs) (hS : ∀ b, S b → b < B) : Reads w B size A n c xs :=
  ⟨h.1, h.2.1, h.2.2.1, fun hn => by
    obtain ⟨b, off, e, hb, hc⟩ := h.2.2.2.2 hn
    exact ⟨b, off, e, hS b hb, hc⟩⟩
theorem RdA.of_reads (h : Reads w B size A n c xs) (hA : A = none → c = 0) : RdA w (· < B) size A n c xs := ⟨h.1, h.2.1, h.2.2.1, hA, h.2.2.2⟩
theorem RdA.mono (h : RdA w S size A n c xs) (hS : ∀ b, S b → S' b) : RdA w S' size A n c xs :=
  ⟨h.1, h.2.1, h.2.2.1, h.2.2.2.1, fun hn => by
    obtain ⟨b, off, e, hb, hc⟩ := h.2.2.2.2 hn
    exact ⟨b, off, e, hS b hb, hc⟩⟩
theorem RdA.go (h : RdA w S size A n c xs) (hS : ∀ b, S b → w'.heap[b]? = w.heap[b]?) : RdA w' S size A n c xs :=
  ⟨h.1, h.2.1, h.2.2.1, h.2.2.2.1, fun hn => by
    obtain ⟨b, off, e, hb, hc⟩ := h.2.2.2.2 hn
    exact ⟨b, off, e, hb, fun j u hu => (World.cell?_of_block (a := ⟨b, off + j, none⟩) (hS b hb)).trans (hc j u hu)⟩⟩
theorem RdA.none_ : RdA w S size none 0 0 [] := ⟨Nat.le_refl _, by omega, by simp, fun _ => rfl, fun h => absurd h (by omega)⟩
theorem RT.parts {k : Int} {r : List (Int × Int)} {ra : Option Addr} {rc : Nat} {a : Int} {sa : Option Addr} {sc : Nat} {mn mx : Int} {z : Bool} {i : Int} {s : ByteArray} (h : RT w S (.mk k r ra rc a l sa sc mn mx z i s)) :
    (RdA w S 2 ra r.length rc (flat r) ∧ r.length ≤ 1048576 ∧ l.length ≤ 1048576 ∧ s.size ≤ 1048576) ∧ RdA w S 9 sa l.length sc (rowT l) ∧ ∀ t ∈ l, RT w S t := by
  rw [RT, RTs_iff] at h; exact h
theorem RT.of {k : Int} {r : List (Int × Int)} {ra : Option Addr} {rc : Nat} {a : Int} {sa : Option Addr} {sc : Nat} {mn mx : Int} {z : Bool} {i : Int} {s : ByteArray}
    (h1 : RdA w S 2 ra r.length rc (flat r) ∧ r.length ≤ 1048576 ∧ l.length ≤ 1048576 ∧ s.size ≤ 1048576) (h2 : RdA w S 9 sa l.length sc (rowT l)) (h3 : ∀ t ∈ l, RT w S t) : RT w S (.mk k r ra rc a l sa sc mn mx z i s) := by
  rw [RT, RTs_iff]; exact ⟨h1, h2, h3⟩
theorem RT.mono (h : RT w S t) (hS : ∀ b, S b → S' b) : RT w S' t := by
  induction t using Ta.ind with
  | h t ih =>
    cases t with
    | mk k r ra rc a l sa sc n m z i s =>
      obtain ⟨h1, h2, h3⟩ := h.parts
      exact RT.of ⟨h1.1.mono hS, h1.2⟩ (h2.mono hS) fun t ht => ih t ht (h3 t ht)
theorem RT.go (h : RT w S t) (hS : ∀ b, S b → w'.heap[b]? = w.heap[b]?) : RT w' S t := by
  induction t using Ta.ind with
  | h t ih =>
    cases t with
    | mk k r ra rc a l sa sc n m z i s =>
      obtain ⟨h1, h2, h3⟩ := h.parts
      exact RT.of ⟨h1.1.go hS, h1.2⟩ (h2.go hS) fun t ht => ih t ht (h3 t ht)
theorem RT.sub (h : RT w S t) : ∀ s ∈ t.subs, RT w S s := by
  cases t with
  | mk k r ra rc a l sa sc n m z i s => exact h.parts.2.2
/-- What lies below B stays. -/
theorem RT.below (h : RT w S t) (hS : ∀ b, S b → b < B) (hb : Below B w w') : RT w' S t := h.go fun b hb' => hb.block b (hS b hb')
theorem RT.drewN (h : RT w S t) (k : Nat) : RT (w.drewN k) S t := h.go fun _ _ => rfl
end
/-- Blocks that were there, but those of L. -/
def Off (w : World) (L : List Nat) : Nat → Prop := fun b => b < w.heap.size ∧ b ∉ L
section
variable {w w' : World} {L M : List Nat} {t : Ta}
/-- Writes to M: what does not read there stays, and what is new is not of M. -/
theorem RT.kept (h : RT w (Off w L) t) (k : Kept w w' M) (hM : ∀ b ∈ M, b ∈ L ∨ w.heap.size ≤ b) {L' : List Nat} (hL : ∀ b ∈ L', b ∈ L ∨ w.heap.size ≤ b) : RT w' (Off w' L') t := by
  refine (h.go fun b hb => k.block b hb.1 fun hm => ?_).mono fun b hb => ⟨Nat.lt_of_lt_of_le hb.1 k.size, fun hm => ?_⟩
  · rcases hM b hm with e | e
    · exact hb.2 e
    · exact absurd hb.1 (by omega)
  · rcases hL b hm with e | e
    · exact hb.2 e
    · exact absurd hb.1 (by omega)
end
end Go.Proofs.Ytajpkgbgfneacaa
