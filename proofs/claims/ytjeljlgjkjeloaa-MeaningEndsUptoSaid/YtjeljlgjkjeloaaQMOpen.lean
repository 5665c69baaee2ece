/- The openers of a plain row with a tree, a text with a place, numbers. -/
import Derived.Test.YtjeljlgjkjeloaaQNOpen
namespace Go.Proofs.Ytjeljlgjkjeloaa
open Go.ChangeShapes Go.WideShapes Go.ChangeAt Go.RowKit

/-- A slice of numbers by its cell. -/
theorem open_ints_v {H : Type} {enc : TypeId × Value → H} {W : World} {fuel : Nat} {v : Value} {x : DataW H × List MemPlace}
    (h : DataW.trod enc Try.prog W 0 (fun _ => true) true fuel 29 [v] = some x) :
    ∃ (A : Option Addr) (n c : Nat) (l : List Int), v = .slice A n c ∧ (A = none → c = 0) ∧ Reads W W.heap.size 1 A n c (l.map (Value.int .i64)) ∧ n ≤ Rows.uptoBulk x.1 := by
  rcases open_ints Try.underlying29 Try.underlying3 cells_i h with ⟨hcs, hx⟩ | ⟨a, len, cap, zs, hcs, _, hl, hm, hz, hx, hcell, hwz⟩
  · simp only [List.cons.injEq, and_true] at hcs
    subst hcs
    exact ⟨none, 0, 0, [], rfl, fun _ => rfl, Reads.none_, by omega⟩
  · simp only [List.cons.injEq, and_true] at hcs
    subst hcs
    simp only [if_true] at hz
    refine ⟨some a, len, cap, zs.take len, rfl, (fun h => by cases h), ⟨hl, by unfold maxLen at hm; omega, by rw [List.length_map, List.length_take]; omega, fun hn => ?_⟩, ?_⟩
    · have h0 := hcell 0 (by omega)
      rw [Addr.add, if_pos rfl] at h0
      have ha := spot_none h0
      have hlt := World.block_lt_of_cell? W _ h0
      refine ⟨a.block, a.off, by rw [← ha], hlt, fun j u hu => ?_⟩
      rw [List.getElem?_map, List.getElem?_take] at hu
      split at hu
      · rename_i hj
        have hc2 := hcell j (by omega)
        rw [ha, add_lit] at hc2
        rw [hc2]
        rw [List.getElem?_eq_getElem (show j < zs.length by omega)] at hu
        simp only [Option.map_some, Option.some.injEq] at hu
        rw [← hu, List.getD_eq_getElem?_getD, List.getElem?_eq_getElem (show j < zs.length by omega)]
        rfl
      · simp at hu
    · subst hx
      have h1 := length_bulk (lits (H := H) .i64 (zs.take len))
      simp only [Rows.uptoBulk]
      simp only [lits, List.length_map, List.length_take] at h1
      have : min len zs.length = len := by omega
      rw [this] at h1
      simp only [lits]
      omega

theorem array2 {α : Type} {cs : Array α} (h : cs.size = 2) : ∃ c0 c1, cs = #[c0, c1] := by
  obtain ⟨l⟩ := cs
  match l, h with
  | [c0, c1], _ => exact ⟨c0, c1, rfl⟩
theorem cells_intsM : Try.prog.cellsOf 29 = 1 := by kernel_rfl
theorem cells_asked : Try.prog.cellsOf 31 = 2 := by kernel_rfl
section
variable {H : Type} {enc : TypeId × Value → H} {W : World}
theorem rda_of {A : Option Addr} {n c : Nat} {t : List Int} (hA : A = none → c = 0) (h : Reads W W.heap.size 1 A n c (t.map (Value.int .i64))) : RdA W (· < W.heap.size) 1 A n c (t.map (Value.int .i64)) := RdA.of_reads h hA
set_option maxRecDepth 100000 in
theorem open_numbers {b0 : Nat} {v : Value} {d : DataW H} {p : List MemPlace} (hv : Value.okWide Try.prog W .any b0 29 v) (h : DataW.Trod enc Try.prog W 0 (fun _ => true) true 29 v d p) :
    ∃ (A : Option Addr) (n c : Nat) (t : List Int), v = .slice A n c ∧ RdA W (· < W.heap.size) 1 A n c (t.map (Value.int .i64)) := by
  obtain ⟨a0, len, cap, rfl⟩ := okWide_slice Try.underlying29 hv
  obtain ⟨fuel, hf⟩ := h
  have hf2 : DataW.trod enc Try.prog W 0 (fun _ => true) true fuel 29 [.slice a0 len cap] = some (d, p) := hf
  obtain ⟨A, n, c, t, e, hA, hr, -⟩ := open_ints_v hf2
  rw [e]
  exact ⟨A, n, c, t, rfl, rda_of hA hr⟩
set_option maxRecDepth 100000 in
theorem open_asked {b0 : Nat} {v : Value} {d : DataW H} {p : List MemPlace} (hv : Value.okWide Try.prog W .any b0 31 v) (h : DataW.Trod enc Try.prog W 0 (fun _ => true) true 31 v d p) :
    ∃ (At : Option Addr) (n c : Nat) (t : List Int) (at_ : Int), v = .agg #[.slice At n c, .int .i64 at_] ∧ RdA W (· < W.heap.size) 1 At n c (t.map (Value.int .i64)) := by
  obtain ⟨cs, rfl, hsz⟩ := okWide_struct Try.underlying31 hv
  obtain ⟨c0, c1, rfl⟩ := array2 (hsz.trans cells_asked)
  obtain ⟨fuel, hf⟩ := h
  obtain ⟨y0, y1, n, hx, _, h0, h1⟩ := Go.ChangeShapes.trod_struct2 Try.underlying31 hf
  replace h0 : DataW.trod enc Try.prog W 0 (fun _ => true) true n 29 (([c0, c1].drop 0).take (Try.prog.cellsOf 29)) = some y0 := h0
  rw [cells_intsM] at h0
  change DataW.trod enc Try.prog W 0 (fun _ => true) true n 29 [c0] = some y0 at h0
  replace h1 : DataW.trod enc Try.prog W 0 (fun _ => true) true n 3 (([c0, c1].drop 1).take (Try.prog.cellsOf 3)) = some y1 := h1
  rw [cells_i] at h1
  change DataW.trod enc Try.prog W 0 (fun _ => true) true n 3 [c1] = some y1 at h1
  obtain ⟨A, m, c, t, e0, hA, hr, -⟩ := open_ints_v (v := c0) h0
  obtain ⟨at_, e1, _, _⟩ := DataW.trod_int Try.underlying3 h1
  simp at e1
  subst e0 e1
  exact ⟨A, m, c, t, at_, rfl, rda_of hA hr⟩
end
end Go.Proofs.Ytjeljlgjkjeloaa
