/- Arguments opened: a slice of ranges, whatever it is. -/
import Derived.Test.YtgljhhlnnedmaaaDoorOpen
import Derived.Test.YtgljhhlnnedmaaaDoorFlat
import Derived.Deep.SlicePairs
import Derived.Lib.SmallJoins
namespace Go.Proofs.YtgljhhlnnedmaaaDoor
open Go.ChangeShapes Go.WideShapes Go.ChangeAt Go.RowKit

theorem cells_slice_r : Tryd.prog.cellsOf 42 = 1 := by kernel_rfl
theorem cells_rng : Tryd.prog.cellsOf 55 = 2 := by kernel_rfl
theorem cells_i : Tryd.prog.cellsOf 3 = 1 := by kernel_rfl
theorem flat_at {l : List (Int × Int)} {j : Nat} {u : Value} (h : (flat l)[j]? = some u) : ∃ q x, l[q]? = some x ∧ ((j = q * 2 ∧ u = .int .i64 x.1) ∨ (j = q * 2 + 1 ∧ u = .int .i64 x.2)) := by
  have hj := (List.getElem?_eq_some_iff.1 h).1
  rw [flat_length] at hj
  have hx : l[j / 2]? = some l[j / 2] := List.getElem?_eq_getElem (by omega)
  have hg := flat_get l _ _ hx
  refine ⟨j / 2, _, hx, ?_⟩
  rcases (show j = j / 2 * 2 ∨ j = j / 2 * 2 + 1 from by omega) with e | e
  · refine .inl ⟨e, ?_⟩
    rw [e, hg.1] at h
    exact (Option.some.inj h).symm
  · refine .inr ⟨e, ?_⟩
    rw [e, hg.2] at h
    exact (Option.some.inj h).symm
theorem bulk_mem {H : Type} {d : DataW H} {l : List (DataW H)} (h : d ∈ l) : 1 ≤ Rows.uptoBulk d ∧ Rows.uptoBulk d ≤ Rows.uptoBulkAll l := ⟨one_le_bulk d, part_bulk h⟩
theorem open_rng {H : Type} {enc : TypeId × Value → H} {W : World} {fuel : Nat} {v : Value} {x : DataW H × List MemPlace}
    (h : DataW.trod enc Tryd.prog W 0 (fun _ => true) true fuel 42 [v] = some x) :
    ∃ (A : Option Addr) (n c : Nat) (l : List (Int × Int)), v = .slice A n c ∧ (A = none → c = 0) ∧ Reads W W.heap.size 2 A n c (flat l) ∧ (∀ y ∈ l, (Lit.int .i64 y.1).wf = true ∧ (Lit.int .i64 y.2).wf = true) ∧ n ≤ Rows.uptoBulk x.1 := by
  rcases Go.Deep.open_slice_pairs Tryd.underlying42 Tryd.underlying55 cells_rng rfl rfl cells_i cells_i h with ⟨hcs, hx⟩ | ⟨a, len, cap, m, n, V0, V1, D0, D1, P0, P1, hcs, hb, hl, hm, hmm, hx, hi⟩
  · simp only [List.cons.injEq, and_true] at hcs
    subst hcs
    exact ⟨none, 0, 0, [], rfl, fun _ => rfl, Reads.none_, by simp, by omega⟩
  · simp only [List.cons.injEq, and_true] at hcs
    subst hcs
    simp only [if_true] at hmm
    subst hmm
    have each : ∀ i, ∃ q : Int × Int, i < m → W.cell? (a.add (i * 2)) = some (.int .i64 q.1) ∧ W.cell? (a.add (i * 2 + 1)) = some (.int .i64 q.2) ∧ (Lit.int .i64 q.1).wf = true ∧ (Lit.int .i64 q.2).wf = true := by
      intro i
      by_cases him : i < m
      · obtain ⟨h0, h1, h2, h3⟩ := hi i him
        obtain ⟨n0, e0, _, w0⟩ := DataW.trod_int Tryd.underlying3 h2
        obtain ⟨n1, e1, _, w1⟩ := DataW.trod_int Tryd.underlying3 h3
        simp only [List.cons.injEq, and_true] at e0 e1
        exact ⟨(n0, n1), fun _ => ⟨by rw [h0, e0], by rw [h1, e1], w0, w1⟩⟩
      · exact ⟨(0, 0), fun h => absurd h him⟩
    obtain ⟨q, hq⟩ : ∃ q : Nat → Int × Int, ∀ i, i < m → W.cell? (a.add (i * 2)) = some (.int .i64 (q i).1) ∧ W.cell? (a.add (i * 2 + 1)) = some (.int .i64 (q i).2) ∧ (Lit.int .i64 (q i).1).wf = true ∧ (Lit.int .i64 (q i).2).wf = true :=
      ⟨fun i => Classical.choose (each i), fun i => Classical.choose_spec (each i)⟩
    have hll : ((List.range len).map q).length = len := by simp
    refine ⟨some a, len, m, (List.range len).map q, rfl, (fun h => by cases h), ⟨hl, by unfold maxLen at hm; omega, by rw [flat_length, hll], fun hn => ?_⟩, fun y hy => ?_, ?_⟩
    · have h0 := (hq 0 (by omega)).1
      rw [Nat.zero_mul, Addr.add, if_pos rfl] at h0
      have ha := spot_none h0
      have hlt := World.block_lt_of_cell? W _ h0
      refine ⟨a.block, a.off, by rw [← ha], hlt, fun j u hu => ?_⟩
      obtain ⟨i, x, hx1, hor⟩ := flat_at hu
      have hil : i < len := by have := (List.getElem?_eq_some_iff.1 hx1).1; rw [hll] at this; exact this
      obtain rfl : q i = x := by simpa [hil] using hx1
      have hqi := hq i (by omega)
      rcases hor with ⟨rfl, rfl⟩ | ⟨rfl, rfl⟩
      · have := hqi.1
        rwa [ha, add_lit] at this
      · have := hqi.2.1
        rwa [ha, add_lit] at this
    · obtain ⟨i, hi1, rfl⟩ := List.mem_map.1 hy
      have := hq i (by have := List.mem_range.1 hi1; omega)
      exact ⟨this.2.2.1, this.2.2.2⟩
    · rw [hx]
      have h1 := length_bulk ((List.range len).map fun i => DataW.agg (H := H) [D0 i, D1 i])
      rw [List.length_map, List.length_range] at h1
      simp only [Rows.uptoBulk]
      omega
/-- A slice of numbers by its cell. -/
theorem open_ints_v {H : Type} {enc : TypeId × Value → H} {W : World} {fuel : Nat} {v : Value} {x : DataW H × List MemPlace}
    (h : DataW.trod enc Tryd.prog W 0 (fun _ => true) true fuel 29 [v] = some x) :
    ∃ (A : Option Addr) (n c : Nat) (l : List Int), v = .slice A n c ∧ (A = none → c = 0) ∧ Reads W W.heap.size 1 A n c (l.map (Value.int .i64)) ∧ n ≤ Rows.uptoBulk x.1 := by
  rcases open_ints Tryd.underlying29 Tryd.underlying3 cells_i h with ⟨hcs, hx⟩ | ⟨a, len, cap, zs, hcs, _, hl, hm, hz, hx, hcell, hwz⟩
  · simp only [List.cons.injEq, and_true] at hcs
    subst hcs
    exact ⟨none, 0, 0, [], rfl, fun _ => rfl, Reads.none_, by omega⟩
  · simp only [List.cons.injEq, and_true] at hcs
    subst hcs
    simp only [if_true] at hz
    refine ⟨some a, len, cap, zs.take len, rfl, (fun h => by cases h), ⟨hl, by unfold maxLen at hm; omega, by rw [List.length_map, List.length_take]; omega, fun hn => ?_⟩, ?_⟩
    · have h0 := hcell 0 (by omega)
      rw [Addr.add, if_pos rfl] at h0
      have ha := spot_none h0
      have hlt := World.block_lt_of_cell? W _ h0
      refine ⟨a.block, a.off, by rw [← ha], hlt, fun j u hu => ?_⟩
      rw [List.getElem?_map, List.getElem?_take] at hu
      split at hu
      · rename_i hj
        have hc2 := hcell j (by omega)
        rw [ha, add_lit] at hc2
        rw [hc2]
        rw [List.getElem?_eq_getElem (show j < zs.length by omega)] at hu
        simp only [Option.map_some, Option.some.injEq] at hu
        rw [← hu, List.getD_eq_getElem?_getD, List.getElem?_eq_getElem (show j < zs.length by omega)]
        rfl
      · simp at hu
    · subst hx
      have h1 := length_bulk (lits (H := H) .i64 (zs.take len))
      simp only [Rows.uptoBulk]
      simp only [lits, List.length_map, List.length_take] at h1
      have : min len zs.length = len := by omega
      rw [this] at h1
      simp only [lits]
      omega
end Go.Proofs.YtgljhhlnnedmaaaDoor
