/- Words for memory: a world of which some blocks alone have turned. No program here. -/
import Derived.Test.YteiggbbljgkloaaMem4
import Derived.WalkSmall
namespace Go.Proofs.Yteiggbbljgkloaa
open Go.RowKit

/-- w' is w with new blocks, and writes to the blocks of L alone. -/
structure Kept (w w' : World) (L : List Nat) : Prop where
  os : w'.os = w.os
  tape : w'.tape = w.tape
  output : w'.output = w.output
  size : w.heap.size ≤ w'.heap.size
  block : ∀ k, k < w.heap.size → k ∉ L → w'.heap[k]? = w.heap[k]?
section
variable {w w' w'' : World} {L M : List Nat}
theorem Kept.refl : Kept w w L := ⟨rfl, rfl, rfl, Nat.le_refl _, fun _ _ _ => rfl⟩
theorem Kept.trans (h : Kept w w' L) (g : Kept w' w'' M) : Kept w w'' (L ++ M) :=
  ⟨g.os.trans h.os, g.tape.trans h.tape, g.output.trans h.output, Nat.le_trans h.size g.size, fun k hk hn => by
    rw [List.mem_append, not_or] at hn
    exact (g.block k (Nat.lt_of_lt_of_le hk h.size) hn.2).trans (h.block k hk hn.1)⟩
theorem Kept.more (h : Kept w w' L) (hs : ∀ k ∈ L, k ∈ M ∨ w.heap.size ≤ k) : Kept w w' M :=
  ⟨h.os, h.tape, h.output, h.size, fun k hk hn => h.block k hk fun hm => by
    rcases hs k hm with g | g
    · exact hn g
    · omega⟩
theorem Kept.of_below (h : Below w.heap.size w w') : Kept w w' L := ⟨h.os, h.tape, h.output, h.size, fun k hk _ => h.block k hk⟩
theorem Kept.of_grown {g : Nat} (h : w.grownBy w' (some g)) : Kept w w' [g] := ⟨h.os, h.tape, h.output, h.size, fun k hk hn => h.block k hk (by simpa using hn)⟩
theorem Kept.of_grown' {row : Option Nat} (h : w.grownBy w' row) : Kept w w' row.toList := ⟨h.os, h.tape, h.output, h.size, fun k hk hn => h.block k hk (fun e => hn (by rw [← e]; simp))⟩
theorem Kept.setCell (p : Addr) (u : Value) : Kept w (w.setCell p u) [p.block] :=
  ⟨rfl, rfl, rfl, by simp [World.setCell], fun k _ hn => Below.heap_setCell w p u k (by simpa using hn)⟩
theorem Kept.alloc (o : Obj) : Kept w (w.alloc o) L := Kept.of_below ((Below.refl _ _).alloc (Nat.le_refl _) o)
theorem Kept.drew : Kept w w.drew L := ⟨rfl, rfl, rfl, Nat.le_refl _, fun _ _ _ => rfl⟩
theorem Kept.drewN (n : Nat) : Kept w (w.drewN n) L := ⟨rfl, rfl, rfl, Nat.le_refl _, fun _ _ _ => rfl⟩
theorem Kept.below {B : Nat} (h : Kept w w' L) (hL : ∀ k ∈ L, B ≤ k) (hB : B ≤ w.heap.size) : Below B w w' :=
  ⟨h.os, h.tape, h.output, h.size, fun k hk => h.block k (by omega) fun hm => by have := hL k hm; omega⟩
theorem Below.kept {B : Nat} {w0 : World} (h : Below B w0 w) (g : Kept w w' L) (hL : ∀ k ∈ L, B ≤ k) (hB : B ≤ w.heap.size) : Below B w0 w' := h.trans (g.below hL hB)
theorem Kept.cell (h : Kept w w' L) {p : Addr} (hp : p.block < w.heap.size) (hn : p.block ∉ L) : w'.cell? p = w.cell? p := World.cell?_of_block (h.block _ hp hn)
theorem Blk.kept {g : Nat} {t : TypeId} {cs : List Value} (h : Blk w g t cs) (k : Kept w w' L) (hn : g ∉ L) : Blk w' g t cs := (k.block g h.lt hn).trans h
theorem own_kept {base : Nat} {e : TypeId} {size : Nat} {v : Value} {n : Nat} {xs : List Value} (h : w.ownsRow base e size v n xs) (k : Kept w w' L) (hn : ∀ b, v.ownBlock = some b → b ∉ L) : w'.ownsRow base e size v n xs := by
  refine ⟨h.1, h.2.imp id fun ⟨g, cap, cur, hv, hb, hh, h3⟩ => ⟨g, cap, cur, hv, hb, ?_, h3⟩⟩
  have hlt := (Array.getElem?_eq_some_iff.1 hh).1
  rw [k.block g hlt (hn g (by rw [hv]; rfl))]
  exact hh
theorem Reads.kept {B size n c : Nat} {A : Option Addr} {xs : List Value} (h : Reads w B size A n c xs) (k : Kept w w' L) (hL : ∀ b ∈ L, B ≤ b) (hB : B ≤ w.heap.size) : Reads w' B size A n c xs := h.below (k.below hL hB)
end
/-- A row of the call's own, shorter. -/
theorem own_shrink {w : World} {base : Nat} {e : TypeId} {size : Nat} {A : Option Addr} {c n m : Nat} {xs ys : List Value} (h : w.ownsRow base e size (.slice A n c) n (xs ++ ys)) (hx : xs.length = m * size) (hm : m ≤ n) (hA : A ≠ none) : w.ownsRow base e size (.slice A m c) m xs := by
  rcases h.2 with ⟨h1, _⟩ | ⟨g, cap, cur, hv, hb, hh, hnc, hcm, hcs, ht⟩
  · simp only [Value.slice.injEq] at h1; exact absurd h1.1 hA
  · simp only [Value.slice.injEq, true_and] at hv
    obtain ⟨rfl, rfl⟩ := hv
    refine ⟨hx, .inr ⟨g, c, cur, rfl, hb, hh, by omega, hcm, hcs, ?_⟩⟩
    have e1 : cur.toList.take (m * size) = (cur.toList.take (n * size)).take (m * size) := by rw [List.take_take, Nat.min_eq_left (Nat.mul_le_mul_right _ hm)]
    rw [e1, ht, ← hx]
    exact List.take_left
theorem own_ne {w : World} {base : Nat} {e : TypeId} {size : Nat} {A : Option Addr} {n' c n : Nat} {xs : List Value} (h : w.ownsRow base e size (.slice A n' c) n xs) (hn : 0 < n) : A ≠ none := by
  obtain ⟨g, rfl, _⟩ := own_form h hn
  simp
end Go.Proofs.Yteiggbbljgkloaa
