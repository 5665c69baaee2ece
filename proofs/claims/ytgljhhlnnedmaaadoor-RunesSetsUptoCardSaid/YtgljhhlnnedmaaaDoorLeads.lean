/- What the row's list says of the table: where it lies, and its numbers. -/
import Derived.Test.YtgljhhlnnedmaaaDoorRows
import Derived.Test.YtgljhhlnnedmaaaDoorDecode
import Derived.ProofKit
import Derived.OpenShut
import Derived.LaidLaws
import Derived.Deep.DeepHandedRow
namespace Go.Proofs.YtgljhhlnnedmaaaDoor
open Go.RowKit Go.ChangeShapes Go.WideShapes

theorem leads_named : Tryd.prog.globalNamed "heron/runes.leads" = some 0 := by kernel_rfl
theorem leads_type : (Tryd.prog.globals[0]?).map (·.type) = some 58 := by kernel_rfl
theorem cells_lead : Tryd.prog.cellsOf 57 = 5 := by kernel_rfl
theorem cells_int : Tryd.prog.cellsOf 3 = 1 := by kernel_rfl

theorem lead_data {H : Type} : (Rows.laid_heron_runes_leads : DataW H) = .agg (leadTab.map fun r => .agg (r.map fun z => .lit (.int .i64 z))) := rfl
theorem leadTab_len : leadTab.length = 9 := rfl
theorem leadTab_row : ∀ i, i < 9 → (leadTab.getD i []).length = 5 := by decide

theorem fm_congr {α β : Type} : ∀ {l : List α} {f g : α → List β}, (∀ x ∈ l, f x = g x) → l.flatMap f = l.flatMap g
  | [], _, _, _ => rfl
  | x :: l, f, g, h => by
    rw [List.flatMap_cons, List.flatMap_cons, h x (by simp), fm_congr (fun y hy => h y (by simp [hy]))]

theorem row_cells {H : Type} {enc : TypeId × Value → H} {w : World} {base : Nat} {sp : Nat → Bool} {held : Bool} {fuel : Nat} {cs : List Value} {r : List Int} {x : DataW H × List MemPlace}
    (h : DataW.trod enc Tryd.prog w base sp held fuel 57 cs = some x) (hx : x.1 = .agg (r.map fun z => .lit (.int .i64 z))) (hr : r.length = 5) : cs = r.map (Value.int .i64) := by
  obtain ⟨xs, n, _, he, hl, hxl, hf⟩ := DataW.trod_struct Tryd.underlying57 h
  rw [cells_lead] at hl
  subst he
  simp only [DataW.agg.injEq] at hx
  apply List.ext_getElem?
  intro j
  by_cases hj : j < 5
  · have hfj : ∃ f : Field, f.type = 3 ∧ f.offset = j ∧ DataW.trod enc Tryd.prog w base sp held n f.type ((cs.drop f.offset).take (Tryd.prog.cellsOf f.type)) = xs[j]? := by
      rcases (show j = 0 ∨ j = 1 ∨ j = 2 ∨ j = 3 ∨ j = 4 from by omega) with rfl | rfl | rfl | rfl | rfl
      · exact ⟨_, rfl, rfl, hf 0 _ rfl⟩
      · exact ⟨_, rfl, rfl, hf 1 _ rfl⟩
      · exact ⟨_, rfl, rfl, hf 2 _ rfl⟩
      · exact ⟨_, rfl, rfl, hf 3 _ rfl⟩
      · exact ⟨_, rfl, rfl, hf 4 _ rfl⟩
    obtain ⟨f, ht, ho, hd⟩ := hfj
    rw [ht, ho, cells_int] at hd
    have hxj : j < xs.length := by
      have := congrArg List.length hx
      simp only [List.length_map] at this
      omega
    rw [List.getElem?_eq_getElem hxj] at hd
    obtain ⟨z, hc, he, _⟩ := DataW.trod_int Tryd.underlying3 hd
    have h1 : cs[j]? = some (.int .i64 z) := by
      have := congrArg (·[0]?) hc
      simpa [List.getElem?_take, List.getElem?_drop] using this
    have h2 : (xs.map (·.1))[j]? = some (DataW.lit (.int .i64 z) : DataW H) := by rw [List.getElem?_map, List.getElem?_eq_getElem hxj, he]; rfl
    rw [hx, List.getElem?_map] at h2
    rw [h1, List.getElem?_map]
    cases hz : r[j]? with
    | none => rw [hz] at h2; simp at h2
    | some z' =>
      rw [hz] at h2
      simp only [Option.map_some, Option.some.injEq, DataW.lit.injEq, Lit.int.injEq, true_and] at h2
      rw [← h2]; rfl
  · rw [List.getElem?_eq_none (by omega), List.getElem?_eq_none (by simp; omega)]

theorem table_cells {H : Type} {enc : TypeId × Value → H} {w : World} {base : Nat} {sp : Nat → Bool} {held : Bool} {fuel : Nat} {cs : List Value} {p : List MemPlace}
    (h : DataW.trod enc Tryd.prog w base sp held fuel 58 cs = some (Rows.laid_heron_runes_leads, p)) : cs = leadCells.toList := by
  obtain ⟨xs, n, _, he, hl, hxl, hf⟩ := DataW.trod_array Tryd.underlying58 h
  rw [show Tryd.prog.cellsOf 58 = 45 from by kernel_rfl] at hl
  rw [lead_data] at he
  simp only [Prod.mk.injEq, DataW.agg.injEq] at he
  have hx := he.1
  have hrow : ∀ i, i < 9 → (cs.drop (i * 5)).take 5 = (leadTab.getD i []).map (Value.int .i64) := by
    intro i hi
    have hd := hf i hi
    rw [cells_lead] at hd
    rw [List.getElem?_eq_getElem (by omega)] at hd
    refine row_cells hd ?_ (leadTab_row i hi)
    have h2 := congrArg (·[i]?) hx
    simp only [List.getElem?_map] at h2
    rw [List.getElem?_eq_getElem (show i < xs.length by omega), List.getElem?_eq_getElem (show i < leadTab.length by rw [leadTab_len]; exact hi)] at h2
    simp only [Option.map_some, Option.some.injEq] at h2
    rw [← h2, List.getD_eq_getElem?_getD, List.getElem?_eq_getElem (show i < leadTab.length by rw [leadTab_len]; exact hi)]
    rfl
  have e : cs = (List.range 9).flatMap fun i => (cs.drop (i * 5)).take 5 := by
    have hcs : ∀ (k : Nat) (l : List Value), l.length = k * 5 → l = (List.range k).flatMap fun i => (l.drop (i * 5)).take 5 := by
      intro k
      induction k with
      | zero => intro l hl; simp at hl; subst hl; rfl
      | succ k ih =>
        intro l hl
        rw [List.range_succ, List.flatMap_append]
        have h1 := ih (l.take (k * 5)) (by rw [List.length_take]; omega)
        have h2 : ((List.range k).flatMap fun i => (l.drop (i * 5)).take 5) = (List.range k).flatMap fun i => ((l.take (k * 5)).drop (i * 5)).take 5 := by
          apply fm_congr
          intro i hi
          rw [List.mem_range] at hi
          rw [List.drop_take, List.take_take, Nat.min_eq_left (by omega)]
        rw [h2, ← h1]
        simp only [List.flatMap_cons, List.flatMap_nil, List.append_nil]
        rw [show List.take 5 (List.drop (k * 5) l) = List.drop (k * 5) l from List.take_of_length_le (by rw [List.length_drop]; omega)]
        exact (List.take_append_drop _ _).symm
    exact hcs 9 cs (by omega)
  rw [e]
  have e2 : ((List.range 9).flatMap fun i => (cs.drop (i * 5)).take 5) = (List.range 9).flatMap fun i => (leadTab.getD i []).map (Value.int .i64) := by
    apply fm_congr
    intro i hi
    exact hrow i (by simpa using hi)
  rw [e2]
  rfl

/-- WHAT THE ROW's LIST GIVES: the table lies there. -/
theorem leads_in {W : World} (h : laidMetH Tryd.prog [("heron/runes.leads", Rows.laid_heron_runes_leads)] W) : LeadsIn W := by
  obtain ⟨ps, ⟨g', t', cs, fuel, p, q, hg', ht', hvar, hd, _, _⟩, _⟩ := h
  obtain rfl := Option.some.inj (leads_named.symm.trans hg')
  obtain rfl := Option.some.inj (leads_type.symm.trans ht')
  have hc := table_cells hd
  unfold World.var? at hvar
  rw [leads_named] at hvar
  simp only [Option.bind_some] at hvar
  unfold LeadsIn
  split at hvar
  · rename_i c t fr hh
    simp only [Option.some.injEq] at hvar
    subst hvar
    refine ⟨t, fr, ?_⟩
    rw [hh]
    have : c = leadCells := Array.toList_inj.1 hc
    rw [this]
  · cases hvar
theorem LeadsIn.lt {W : World} (h : LeadsIn W) : 0 < W.heap.size := by
  obtain ⟨t, fr, h⟩ := h
  exact (Array.getElem?_eq_some_iff.1 h).1
end Go.Proofs.YtgljhhlnnedmaaaDoor
