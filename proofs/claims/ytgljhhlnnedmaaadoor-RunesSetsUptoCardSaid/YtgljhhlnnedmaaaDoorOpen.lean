/- Arguments opened: a slice of integers, whatever it is. -/
import Derived.Test.YtgljhhlnnedmaaaDoorFrame
import Derived.ChangeSlices
namespace Go.Proofs.YtgljhhlnnedmaaaDoor
open Go.ChangeShapes Go.WideShapes Go.ChangeAt Go.RowKit

theorem one_le_bulk {H : Type} (d : DataW H) : 1 ≤ Rows.uptoBulk d := by
  cases d with
  | lit l => cases l <;> simp [Rows.uptoBulk]
  | nil => simp [Rows.uptoBulk]
  | ptr d => simp [Rows.uptoBulk]
  | slice elems spare => simp [Rows.uptoBulk]
  | agg parts => simp [Rows.uptoBulk]
  | iface t d => simp [Rows.uptoBulk]
  | map entries => simp [Rows.uptoBulk]
  | held h => simp [Rows.uptoBulk]
theorem part_bulk {H : Type} {d : DataW H} {l : List (DataW H)} (h : d ∈ l) : Rows.uptoBulk d ≤ Rows.uptoBulkAll l := by
  induction l with
  | nil => cases h
  | cons x r ih =>
    simp only [Rows.uptoBulkAll]
    cases List.mem_cons.1 h with
    | inl e => subst e; omega
    | inr e => have := ih e; omega
theorem length_bulk {H : Type} (l : List (DataW H)) : l.length ≤ Rows.uptoBulkAll l := by
  induction l with
  | nil => simp [Rows.uptoBulkAll]
  | cons x r ih => have := one_le_bulk x; simp only [Rows.uptoBulkAll, List.length_cons]; omega
theorem small {H : Type} {l : List (DataW H)} (hk : Rows.uptoSmall H l = true) : Rows.uptoBulkAll l ≤ 1048576 := of_decide_eq_true hk

theorem spot_none {w : World} {a : Addr} {u : Value} (h : w.cell? a = some u) : a = ⟨a.block, a.off, none⟩ := by
  unfold World.cell? at h
  split at h
  · split at h
    · cases h
    · rename_i hs
      cases a
      simp_all
  · cases h

theorem open_reads {H : Type} {enc : TypeId × Value → H} {P : Program} {W : World} {base : Nat} {t e : TypeId} {k : IntKind} {v : Value} {d : DataW H} {p : List MemPlace} (ht : P.underlying t = some (.slice e)) (he : P.underlying e = some (.int k)) (hc : P.cellsOf e = 1)
    (hv : Value.okWide P W .any base t v) (h : DataW.Trod enc P W 0 (fun _ => true) true t v d p) :
    ∃ (A : Option Addr) (n c : Nat) (xs : List Int), v = .slice A n c ∧ Reads W W.heap.size 1 A n c (xs.map (Value.int k)) ∧ (∀ x ∈ xs, (Lit.int k x).wf = true) ∧ n ≤ Rows.uptoBulk d := by
  obtain ⟨a0, len, cap, rfl⟩ := okWide_slice ht hv
  obtain ⟨fuel, hf⟩ := h
  rcases open_ints ht he hc hf with ⟨hcs, hx⟩ | ⟨a, len', cap', zs, hcs, _, hl, hm, hz, hx, hcell, hwz⟩
  · simp only [Value.cells] at hcs
    have := List.cons.inj hcs
    simp only [Value.slice.injEq] at this
    obtain ⟨⟨rfl, rfl, rfl⟩, _⟩ := this
    exact ⟨none, 0, 0, [], rfl, Reads.none_, by simp, by have := one_le_bulk d; omega⟩
  · simp only [Value.cells] at hcs
    have := List.cons.inj hcs
    simp only [Value.slice.injEq] at this
    obtain ⟨⟨rfl, rfl, rfl⟩, _⟩ := this
    simp only [if_true] at hz
    simp only [Prod.mk.injEq] at hx
    obtain ⟨rfl, _⟩ := hx
    refine ⟨some a, len, cap, zs.take len, rfl, ⟨hl, by unfold maxLen at hm; omega, by rw [List.length_map, List.length_take]; omega, fun hn => ?_⟩, fun x hx => hwz x (List.mem_of_mem_take hx), ?_⟩
    · have h0 := hcell 0 (by omega)
      rw [Addr.add, if_pos rfl] at h0
      have ha := spot_none h0
      have hlt := World.block_lt_of_cell? W _ h0
      refine ⟨a.block, a.off, by rw [← ha], hlt, fun j u hu => ?_⟩
      rw [List.getElem?_map, List.getElem?_take] at hu
      split at hu
      · rename_i hj
        have hc2 := hcell j (by omega)
        rw [ha, add_lit] at hc2
        rw [hc2]
        rw [List.getElem?_eq_getElem (show j < zs.length by omega)] at hu
        simp only [Option.map_some, Option.some.injEq] at hu
        rw [← hu, List.getD_eq_getElem?_getD, List.getElem?_eq_getElem (show j < zs.length by omega)]
        rfl
      · simp at hu
    · have h1 := length_bulk (lits (H := H) k (zs.take len))
      simp only [Rows.uptoBulk]
      simp only [lits, List.length_map, List.length_take] at h1
      have : min len zs.length = len := by omega
      rw [this] at h1
      simp only [lits]
      omega
end Go.Proofs.YtgljhhlnnedmaaaDoor
