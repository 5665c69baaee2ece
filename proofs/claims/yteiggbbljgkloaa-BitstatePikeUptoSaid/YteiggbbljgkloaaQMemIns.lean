/- Words for memory: a program. -/
import Derived.Test.YteiggbbljgkloaaQMach
import Derived.Test.YteiggbbljgkloaaQMem
import Derived.Handy
namespace Go.Proofs.Yteiggbbljgkloaa
open Go.RowKit Go.Proofs.Yteiggbbljgkloaa.Mach

/-- The cells of an instruction. -/
def insVals (I : Ins) (A : Option Addr) (n c : Nat) : List Value := [.int .i64 I.op, .int .i64 I.x, .int .i64 I.y, .int .i64 I.arg, .slice A n c]

/-- An instruction and where its ranges lie. -/
structure InV where
  I : Ins
  A : Option Addr
  n : Nat
  c : Nat
def insRow (L : List InV) : List Value := L.flatMap fun v => insVals v.I v.A v.n v.c
theorem insRow_length (L : List InV) : (insRow L).length = L.length * 5 := by
  induction L with
  | nil => rfl
  | cons v L ih => simp only [insRow, List.flatMap_cons, List.length_append, List.length_cons] at *; rw [ih, show (insVals v.I v.A v.n v.c).length = 5 from rfl]; omega
theorem insRow_get : ∀ (L : List InV) (j q : Nat) (v : InV), L[j]? = some v → q < 5 → (insRow L)[j * 5 + q]? = (insVals v.I v.A v.n v.c)[q]?
  | [], j, q, v, h, _ => by simp at h
  | u :: L, 0, q, v, h, hq => by
    simp only [List.getElem?_cons_zero, Option.some.injEq] at h
    subst h
    simp only [insRow, List.flatMap_cons, Nat.zero_mul, Nat.zero_add]
    exact List.getElem?_append_left (by simpa [insVals] using hq)
  | u :: L, j + 1, q, v, h, hq => by
    have := insRow_get L j q v (by simpa using h) hq
    have e1 : (j + 1) * 5 + q = 5 + (j * 5 + q) := by omega
    rw [e1]
    simp only [insRow, List.flatMap_cons]
    rw [List.getElem?_append_right (by simp [insVals]), ← this]
    simp [insVals, insRow]
/-- The instructions' slice reads as L, its ranges too. -/
def ReadsP (w : World) (B : Nat) (A : Option Addr) (n c : Nat) (L : List InV) : Prop := Reads w B 5 A n c (insRow L) ∧ ∀ v ∈ L, Reads w B 2 v.A v.n v.c (flat v.I.rng) ∧ (v.A = none → v.c = 0)
def insL (L : List InV) : List Ins := L.map (·.I)
section
variable {w w' : World} {B B' n c : Nat} {A : Option Addr} {L : List InV}
theorem ReadsP.below (h : ReadsP w B A n c L) (hb : Below B w w') : ReadsP w' B A n c L := ⟨h.1.below hb, fun v hv => ⟨(h.2 v hv).1.below hb, (h.2 v hv).2⟩⟩
theorem ReadsP.more (h : ReadsP w B A n c L) (hB : B ≤ B') : ReadsP w B' A n c L := ⟨h.1.more hB, fun v hv => ⟨(h.2 v hv).1.more hB, (h.2 v hv).2⟩⟩
theorem ReadsP.drewN (h : ReadsP w B A n c L) (k : Nat) : ReadsP (w.drewN k) B A n c L := ⟨h.1.drewN k, fun v hv => ⟨(h.2 v hv).1.drewN k, (h.2 v hv).2⟩⟩
theorem ReadsP.len (h : ReadsP w B A n c L) : L.length = n := by have := h.1.len; rw [insRow_length] at this; omega
/-- The cells of an instruction that reads. -/
theorem ReadsP.cells {b off : Nat} (h : ReadsP w B (some ⟨b, off, none⟩) n c L) {j : Nat} {v : InV} (hv : L[j]? = some v) :
    w.cell? ⟨b, off + j * 5, none⟩ = some (.int .i64 v.I.op) ∧ w.cell? ⟨b, off + j * 5 + 1, none⟩ = some (.int .i64 v.I.x) ∧ w.cell? ⟨b, off + j * 5 + 2, none⟩ = some (.int .i64 v.I.y) ∧
    w.cell? ⟨b, off + j * 5 + 3, none⟩ = some (.int .i64 v.I.arg) ∧ w.cell? ⟨b, off + j * 5 + 4, none⟩ = some (.slice v.A v.n v.c) := by
  have g : ∀ q u, q < 5 → (insVals v.I v.A v.n v.c)[q]? = some u → w.cell? ⟨b, off + j * 5 + q, none⟩ = some u := fun q u hq hu => by
    rw [Nat.add_assoc]
    exact h.1.cellAt ((insRow_get L j q v hv hq).trans hu)
  exact ⟨g 0 _ (by omega) rfl, g 1 _ (by omega) rfl, g 2 _ (by omega) rfl, g 3 _ (by omega) rfl, g 4 _ (by omega) rfl⟩
theorem ReadsP.at_ (h : ReadsP w B A n c L) (hn : 0 < n) : ∃ b off, A = some ⟨b, off, none⟩ ∧ b < B := by
  obtain ⟨b, off, e, hb, _⟩ := h.1.at_ hn
  exact ⟨b, off, e, hb⟩
end
end Go.Proofs.Yteiggbbljgkloaa
