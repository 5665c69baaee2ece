/- Words for memory: a block that is known whole. No program here. -/
import Derived.Test.YteiggbbljgkloaaMem
import Derived.Laws.CopyOwn
import Derived.Laws.Rows
namespace Go.Proofs.Yteiggbbljgkloaa
open Go.RowKit

/-- Block g is just the cells cs of element type t, none frozen. -/
def Blk (w : World) (g : Nat) (t : TypeId) (cs : List Value) : Prop := w.heap[g]? = some (.cells cs.toArray t (0, 0))

section
variable {w w' : World} {g : Nat} {t : TypeId} {cs : List Value}
theorem Blk.raw (h : Blk w g t cs) : w.heap[g]? = some (.cells cs.toArray t (0, 0)) := h
theorem Blk.mk (h : w.heap[g]? = some (.cells cs.toArray t (0, 0))) : Blk w g t cs := h
theorem Blk.lt (h : Blk w g t cs) : g < w.heap.size := by
  rcases Nat.lt_or_ge g w.heap.size with hlt | hge
  · exact hlt
  · unfold Blk at h; rw [Array.getElem?_eq_none hge] at h; cases h
theorem Blk.cell (h : Blk w g t cs) (i : Nat) : w.cell? ⟨g, i, none⟩ = cs[i]? := by
  rw [cell_of_row w g i cs.toArray t (0, 0) h]; simp
theorem Blk.frozen (h : Blk w g t cs) (i : Nat) : w.frozen? ⟨g, i, none⟩ = false := by
  unfold Blk at h
  simp [World.frozen?, h]
theorem Blk.new (w : World) (t : TypeId) (cs : List Value) : Blk (w.alloc (.cells cs.toArray t)) w.heap.size t cs := heap_alloc_new w _
theorem Blk.drew (h : Blk w g t cs) : Blk w.drew g t cs := h
theorem Blk.drewN (h : Blk w g t cs) (n : Nat) : Blk (w.drewN n) g t cs := h
theorem Blk.alloc (h : Blk w g t cs) (o : Obj) : Blk (w.alloc o) g t cs := (Below.heap_alloc w o g h.lt).trans h
theorem Blk.set_ (h : Blk w g t cs) (i : Nat) (u : Value) : Blk (w.setCell ⟨g, i, none⟩ u) g t (cs.set i u) := by
  unfold Blk at h ⊢
  simp [World.setCell, Array.getElem?_modify, h]
theorem Blk.far (h : Blk w g t cs) {p : Addr} (hp : g ≠ p.block) (u : Value) : Blk (w.setCell p u) g t cs := (Below.heap_setCell w p u g hp).trans h
theorem Blk.below {B : Nat} (h : Blk w g t cs) (hb : Below B w w') (hg : g < B) : Blk w' g t cs := (hb.block g hg).trans h
theorem Blk.grown {row : Option Nat} (h : Blk w g t cs) (hb : w.grownBy w' row) (hg : some g ≠ row) : Blk w' g t cs := (hb.block g h.lt hg).trans h
/-- A slice of the block's head. -/
theorem Blk.reads (h : Blk w g t cs) {size n c : Nat} (hn : n ≤ c) (hc : c ≤ 9223372036854775807) (hl : n * size ≤ cs.length) : Reads w w.heap.size size (some ⟨g, 0, none⟩) n c (cs.take (n * size)) := by
  refine ⟨hn, hc, by rw [List.length_take]; omega, fun _ => ⟨g, 0, rfl, h.lt, fun j u hu => ?_⟩⟩
  rw [Nat.zero_add, h.cell]
  rw [List.getElem?_take] at hu
  split at hu
  · exact hu
  · cases hu
theorem Blk.own (h : Blk w g t cs) {base size n c : Nat} (hb : base ≤ g) (hn : n ≤ c) (hc : c ≤ 9223372036854775807) (hl : cs.length = c * size) : w.ownsRow base t size (.slice (some ⟨g, 0, none⟩) n c) n (cs.take (n * size)) := by
  have hm : n * size ≤ c * size := Nat.mul_le_mul_right _ hn
  exact ⟨by rw [List.length_take]; omega, .inr ⟨g, c, cs.toArray, rfl, hb, h, hn, by unfold maxLen; omega, by simp [hl], by simp⟩⟩
theorem Blk.ne_ {g' : Nat} {t' : TypeId} {cs' : List Value} (h : Blk w g t cs) (h' : Blk w g' t' cs') (hne : t ≠ t') : g ≠ g' := by
  rintro rfl
  unfold Blk at h h'
  rw [h] at h'
  injection h' with h'
  injection h' with _ ht
  exact hne ht
end
theorem copied {w : World} {B : Nat} {size n c : Nat} {A : Option Addr} {xs : List Value} (h : Reads w B size A n c xs) (hp : 0 < xs.length) : ∃ ad, A = some ad ∧ ∀ j v, xs[j]? = some v → w.cell? (ad.add j) = some v := by
  have hn : 0 < n := by
    rcases Nat.eq_zero_or_pos n with h0 | h0
    · have := h.len; rw [h0, Nat.zero_mul] at this; omega
    · exact h0
  obtain ⟨b, off, rfl, _, hc⟩ := h.at_ hn
  exact ⟨_, rfl, fun j v hv => by rw [add_lit]; exact hc j v hv⟩
end Go.Proofs.Yteiggbbljgkloaa
