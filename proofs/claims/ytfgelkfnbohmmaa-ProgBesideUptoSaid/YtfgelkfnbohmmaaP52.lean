/- Rows of programs, and texts, that are handed in. -/
import Derived.Test.YtfgelkfnbohmmaaRows
import Derived.WalkKit
import Derived.ProofKit
import Derived.OpenShut
import Derived.Below
import Derived.ChangeSame
import Derived.JoinedCond
import Derived.ChangeSlices
import Derived.Deep.SlicePairs
import Derived.Deep.Slices
import Derived.Lib.SmallJoins
import Derived.Test.YtfgelkfnbohmmaaP03
import Derived.Test.YtfgelkfnbohmmaaP14
namespace Go.Proofs.Ytfgelkfnbohmmaa
open Go.ChangeShapes Go.WideShapes Go.ChangeAt Go.RowKit Go.Proofs.Ytfgelkfnbohmmaa.Mach
theorem own : ownKnob Try.prog.godebug = none := by kernel_rfl
theorem laidOut : laidOutB Try.prog = true := by kernel_rfl
/-- The row's end where nothing that was there has turned. -/
theorem post_of_below {H : Type} {enc : TypeId × Value → H} {P : Program} {f : Func} {s : ChangeSpec} {apart fresh handsOn : Bool} {W W' : World} {args : Array Value} {v : Value} {ds gs : List (DataW H)} {before pa pv : List MemPlace}
    (hW : DataW.Whole enc P f.params.toList s.vars apart W args.toList ds gs before)
    (hres : ∀ (b : Nat) (sp : Nat → Bool) (hd : Bool), DataW.TrodAll enc P W' b sp hd f.resultTypes.toList (v.resultList f.resultTypes.size) (s.fn H (ds ++ gs)).results [])
    (hargs : DataW.TrodAll enc P W' 0 (fun b => decide (b < W.heap.size)) true f.params.toList args.toList (s.fn H (ds ++ gs)).args pa)
    (hvars : DataW.TrodVars enc P W' (fun b => decide (b < W.heap.size)) s.vars (s.fn H (ds ++ gs)).vars pv)
    (hps : before = pa ++ pv) (hb : Below W.heap.size W W') : s.post enc P f apart fresh handsOn false W args v W' := by
  refine ⟨ds, gs, before, [], pa, pv, hW, hres _ _ _, hargs, hvars, World.keptBut_mono (fun p hp => ⟨hp, ?_⟩) (hb.frame (· ∈ before)), fun h => by cases h⟩
  rw [hps, List.mem_append] at hp
  exact Or.inr hp
theorem one_le_bulk {H : Type} (d : DataW H) : 1 ≤ Rows.uptoBulk d := by
  cases d with
  | lit l => cases l <;> simp [Rows.uptoBulk]
  | nil => simp [Rows.uptoBulk]
  | ptr d => simp [Rows.uptoBulk]
  | slice elems spare => simp [Rows.uptoBulk]
  | agg parts => simp [Rows.uptoBulk]
  | iface t d => simp [Rows.uptoBulk]
  | map entries => simp [Rows.uptoBulk]
  | held h => simp [Rows.uptoBulk]
theorem part_bulk {H : Type} {d : DataW H} {l : List (DataW H)} (h : d ∈ l) : Rows.uptoBulk d ≤ Rows.uptoBulkAll l := by
  induction l with
  | nil => cases h
  | cons x r ih =>
    simp only [Rows.uptoBulkAll]
    cases List.mem_cons.1 h with
    | inl e => subst e; omega
    | inr e => have := ih e; omega
theorem length_bulk {H : Type} (l : List (DataW H)) : l.length ≤ Rows.uptoBulkAll l := by
  induction l with
  | nil => simp [Rows.uptoBulkAll]
  | cons x r ih => have := one_le_bulk x; simp only [Rows.uptoBulkAll, List.length_cons]; omega
theorem spot_none {w : World} {a : Addr} {u : Value} (h : w.cell? a = some u) : a = ⟨a.block, a.off, none⟩ := by
  unfold World.cell? at h
  split at h
  · split at h
    · cases h
    · rename_i hs
      cases a
      simp_all
  · cases h
theorem cells_slice_r : Try.prog.cellsOf 22 = 1 := by kernel_rfl
theorem cells_rng : Try.prog.cellsOf 52 = 2 := by kernel_rfl
theorem cells_i : Try.prog.cellsOf 3 = 1 := by kernel_rfl
theorem flat_at {l : List (Int × Int)} {j : Nat} {u : Value} (h : (flat l)[j]? = some u) : ∃ q x, l[q]? = some x ∧ ((j = q * 2 ∧ u = .int .i64 x.1) ∨ (j = q * 2 + 1 ∧ u = .int .i64 x.2)) := by
  have hj := (List.getElem?_eq_some_iff.1 h).1
  rw [flat_length] at hj
  have hx : l[j / 2]? = some l[j / 2] := List.getElem?_eq_getElem (by omega)
  have hg := flat_get l _ _ hx
  refine ⟨j / 2, _, hx, ?_⟩
  rcases (show j = j / 2 * 2 ∨ j = j / 2 * 2 + 1 from by omega) with e | e
  · refine .inl ⟨e, ?_⟩
    rw [e, hg.1] at h
    exact (Option.some.inj h).symm
  · refine .inr ⟨e, ?_⟩
    rw [e, hg.2] at h
    exact (Option.some.inj h).symm
theorem open_rng {H : Type} {enc : TypeId × Value → H} {W : World} {fuel : Nat} {v : Value} {x : DataW H × List MemPlace}
    (h : DataW.trod enc Try.prog W 0 (fun _ => true) true fuel 22 [v] = some x) :
    ∃ (A : Option Addr) (n c : Nat) (l : List (Int × Int)), v = .slice A n c ∧ (A = none → c = 0) ∧ Reads W W.heap.size 2 A n c (flat l) ∧ (∀ y ∈ l, (Lit.int .i64 y.1).wf = true ∧ (Lit.int .i64 y.2).wf = true) ∧ n ≤ Rows.uptoBulk x.1 := by
  rcases Go.Deep.open_slice_pairs Try.underlying22 Try.underlying52 cells_rng rfl rfl cells_i cells_i h with ⟨hcs, hx⟩ | ⟨a, len, cap, m, n, V0, V1, D0, D1, P0, P1, hcs, hb, hl, hm, hmm, hx, hi⟩
  · simp only [List.cons.injEq, and_true] at hcs
    subst hcs
    exact ⟨none, 0, 0, [], rfl, fun _ => rfl, Reads.none_, by simp, by omega⟩
  · simp only [List.cons.injEq, and_true] at hcs
    subst hcs
    simp only [if_true] at hmm
    subst hmm
    have each : ∀ i, ∃ q : Int × Int, i < m → W.cell? (a.add (i * 2)) = some (.int .i64 q.1) ∧ W.cell? (a.add (i * 2 + 1)) = some (.int .i64 q.2) ∧ (Lit.int .i64 q.1).wf = true ∧ (Lit.int .i64 q.2).wf = true := by
      intro i
      by_cases him : i < m
      · obtain ⟨h0, h1, h2, h3⟩ := hi i him
        obtain ⟨n0, e0, _, w0⟩ := DataW.trod_int Try.underlying3 h2
        obtain ⟨n1, e1, _, w1⟩ := DataW.trod_int Try.underlying3 h3
        simp only [List.cons.injEq, and_true] at e0 e1
        exact ⟨(n0, n1), fun _ => ⟨by rw [h0, e0], by rw [h1, e1], w0, w1⟩⟩
      · exact ⟨(0, 0), fun h => absurd h him⟩
    obtain ⟨q, hq⟩ : ∃ q : Nat → Int × Int, ∀ i, i < m → W.cell? (a.add (i * 2)) = some (.int .i64 (q i).1) ∧ W.cell? (a.add (i * 2 + 1)) = some (.int .i64 (q i).2) ∧ (Lit.int .i64 (q i).1).wf = true ∧ (Lit.int .i64 (q i).2).wf = true :=
      ⟨fun i => Classical.choose (each i), fun i => Classical.choose_spec (each i)⟩
    have hll : ((List.range len).map q).length = len := by simp
    refine ⟨some a, len, m, (List.range len).map q, rfl, (fun h => by cases h), ⟨hl, by unfold maxLen at hm; omega, by rw [flat_length, hll], fun hn => ?_⟩, fun y hy => ?_, ?_⟩
    · have h0 := (hq 0 (by omega)).1
      rw [Nat.zero_mul, Addr.add, if_pos rfl] at h0
      have ha := spot_none h0
      have hlt := World.block_lt_of_cell? W _ h0
      refine ⟨a.block, a.off, by rw [← ha], hlt, fun j u hu => ?_⟩
      obtain ⟨i, x, hx1, hor⟩ := flat_at hu
      have hil : i < len := by have := (List.getElem?_eq_some_iff.1 hx1).1; rw [hll] at this; exact this
      obtain rfl : q i = x := by simpa [hil] using hx1
      have hqi := hq i (by omega)
      rcases hor with ⟨rfl, rfl⟩ | ⟨rfl, rfl⟩
      · have := hqi.1
        rwa [ha, add_lit] at this
      · have := hqi.2.1
        rwa [ha, add_lit] at this
    · obtain ⟨i, hi1, rfl⟩ := List.mem_map.1 hy
      have := hq i (by have := List.mem_range.1 hi1; omega)
      exact ⟨this.2.2.1, this.2.2.2⟩
    · rw [hx]
      have h1 := length_bulk ((List.range len).map fun i => DataW.agg (H := H) [D0 i, D1 i])
      rw [List.length_map, List.length_range] at h1
      simp only [Rows.uptoBulk]
      omega
/-- A slice of numbers by its cell. -/
theorem open_ints_v {H : Type} {enc : TypeId × Value → H} {W : World} {fuel : Nat} {v : Value} {x : DataW H × List MemPlace}
    (h : DataW.trod enc Try.prog W 0 (fun _ => true) true fuel 36 [v] = some x) :
    ∃ (A : Option Addr) (n c : Nat) (l : List Int), v = .slice A n c ∧ (A = none → c = 0) ∧ Reads W W.heap.size 1 A n c (l.map (Value.int .i64)) ∧ n ≤ Rows.uptoBulk x.1 := by
  rcases open_ints Try.underlying36 Try.underlying3 cells_i h with ⟨hcs, hx⟩ | ⟨a, len, cap, zs, hcs, _, hl, hm, hz, hx, hcell, hwz⟩
  · simp only [List.cons.injEq, and_true] at hcs
    subst hcs
    exact ⟨none, 0, 0, [], rfl, fun _ => rfl, Reads.none_, by omega⟩
  · simp only [List.cons.injEq, and_true] at hcs
    subst hcs
    simp only [if_true] at hz
    refine ⟨some a, len, cap, zs.take len, rfl, (fun h => by cases h), ⟨hl, by unfold maxLen at hm; omega, by rw [List.length_map, List.length_take]; omega, fun hn => ?_⟩, ?_⟩
    · have h0 := hcell 0 (by omega)
      rw [Addr.add, if_pos rfl] at h0
      have ha := spot_none h0
      have hlt := World.block_lt_of_cell? W _ h0
      refine ⟨a.block, a.off, by rw [← ha], hlt, fun j u hu => ?_⟩
      rw [List.getElem?_map, List.getElem?_take] at hu
      split at hu
      · rename_i hj
        have hc2 := hcell j (by omega)
        rw [ha, add_lit] at hc2
        rw [hc2]
        rw [List.getElem?_eq_getElem (show j < zs.length by omega)] at hu
        simp only [Option.map_some, Option.some.injEq] at hu
        rw [← hu, List.getD_eq_getElem?_getD, List.getElem?_eq_getElem (show j < zs.length by omega)]
        rfl
      · simp at hu
    · subst hx
      have h1 := length_bulk (lits (H := H) .i64 (zs.take len))
      simp only [Rows.uptoBulk]
      simp only [lits, List.length_map, List.length_take] at h1
      have : min len zs.length = len := by omega
      rw [this] at h1
      simp only [lits]
      omega
theorem list5 {α : Type} {cs : List α} (h : cs.length = 5) : ∃ c0 c1 c2 c3 c4, cs = [c0, c1, c2, c3, c4] := by
  match cs, h with
  | [c0, c1, c2, c3, c4], _ => exact ⟨c0, c1, c2, c3, c4, rfl⟩
theorem list3g {α : Type} {cs : List α} (h : cs.length = 3) : ∃ c0 c1 c2, cs = [c0, c1, c2] := by
  match cs, h with
  | [c0, c1, c2], _ => exact ⟨c0, c1, c2, rfl⟩
theorem cells_inst : Try.prog.cellsOf 54 = 5 := by kernel_rfl
theorem cells_insts : Try.prog.cellsOf 28 = 1 := by kernel_rfl
theorem cells_p : Try.prog.cellsOf 30 = 3 := by kernel_rfl
section
variable {H : Type} {enc : TypeId × Value → H} {W : World}
/-- An instruction. -/
theorem open_inst {fuel : Nat} {cs : List Value} {x : DataW H × List MemPlace} (h : DataW.trod enc Try.prog W 0 (fun _ => true) true fuel 54 cs = some x) :
    ∃ v : InV, cs = insVals v.I v.A v.n v.c ∧ Reads W W.heap.size 2 v.A v.n v.c (flat v.I.rng) ∧ (v.A = none → v.c = 0) ∧ v.n ≤ Rows.uptoBulk x.1 := by
  obtain ⟨xs, n, _, rfl, hl, hlen, hf⟩ := DataW.trod_struct Try.underlying54 h
  rw [cells_inst] at hl
  obtain ⟨c0, c1, c2, c3, c4, rfl⟩ := list5 hl
  obtain ⟨y0, y1, y2, y3, y4, rfl⟩ := list5 (cs := xs) hlen
  have h0 : DataW.trod enc Try.prog W 0 (fun _ => true) true n 3 (([c0, c1, c2, c3, c4].drop 0).take (Try.prog.cellsOf 3)) = some y0 := hf 0 _ rfl
  rw [cells_i] at h0
  change DataW.trod enc Try.prog W 0 (fun _ => true) true n 3 [c0] = some y0 at h0
  have h1 : DataW.trod enc Try.prog W 0 (fun _ => true) true n 3 (([c0, c1, c2, c3, c4].drop 1).take (Try.prog.cellsOf 3)) = some y1 := hf 1 _ rfl
  rw [cells_i] at h1
  change DataW.trod enc Try.prog W 0 (fun _ => true) true n 3 [c1] = some y1 at h1
  have h2 : DataW.trod enc Try.prog W 0 (fun _ => true) true n 3 (([c0, c1, c2, c3, c4].drop 2).take (Try.prog.cellsOf 3)) = some y2 := hf 2 _ rfl
  rw [cells_i] at h2
  change DataW.trod enc Try.prog W 0 (fun _ => true) true n 3 [c2] = some y2 at h2
  have h3 : DataW.trod enc Try.prog W 0 (fun _ => true) true n 3 (([c0, c1, c2, c3, c4].drop 3).take (Try.prog.cellsOf 3)) = some y3 := hf 3 _ rfl
  rw [cells_i] at h3
  change DataW.trod enc Try.prog W 0 (fun _ => true) true n 3 [c3] = some y3 at h3
  have h4 : DataW.trod enc Try.prog W 0 (fun _ => true) true n 22 (([c0, c1, c2, c3, c4].drop 4).take (Try.prog.cellsOf 22)) = some y4 := hf 4 _ rfl
  rw [cells_slice_r] at h4
  change DataW.trod enc Try.prog W 0 (fun _ => true) true n 22 [c4] = some y4 at h4
  obtain ⟨op, e0, _, _⟩ := DataW.trod_int Try.underlying3 h0
  obtain ⟨ix, e1, _, _⟩ := DataW.trod_int Try.underlying3 h1
  obtain ⟨iy, e2, _, _⟩ := DataW.trod_int Try.underlying3 h2
  obtain ⟨ia, e3, _, _⟩ := DataW.trod_int Try.underlying3 h3
  obtain ⟨A, m, c, l, e4, hz, hr, _, hb⟩ := open_rng (v := c4) h4
  simp at e0 e1 e2 e3
  subst e0 e1 e2 e3 e4
  refine ⟨⟨⟨op, ix, iy, ia, l⟩, A, m, c⟩, rfl, hr, hz, ?_⟩
  simp only [List.map_cons, List.map_nil, Rows.uptoBulk, Rows.uptoBulkAll]
  omega
/-- The instructions of a program. -/
theorem open_insts {fuel : Nat} {v : Value} {x : DataW H × List MemPlace} (h : DataW.trod enc Try.prog W 0 (fun _ => true) true fuel 28 [v] = some x) :
    ∃ (A : Option Addr) (n c : Nat) (L : List InV), v = .slice A n c ∧ ReadsP W W.heap.size A n c L ∧ n ≤ Rows.uptoBulk x.1 ∧ ∀ u ∈ L, u.n ≤ Rows.uptoBulk x.1 := by
  rcases Go.Deep.open_slice Try.underlying28 h with ⟨hcs, hx⟩ | ⟨a, len, cap, m, n, D, Pl, hcs, hb, hl, hm, hmm, hx, hi⟩
  · simp only [List.cons.injEq, and_true] at hcs
    subst hcs
    exact ⟨none, 0, 0, [], rfl, ⟨Reads.none_, by simp⟩, by omega, by simp⟩
  · simp only [List.cons.injEq, and_true] at hcs
    subst hcs
    simp only [if_true] at hmm
    subst hmm
    rw [cells_inst] at hi
    have each : ∀ i, i < len → ∃ u : InV, (∀ j, j < 5 → W.cell? (a.add (i * 5 + j)) = (insVals u.I u.A u.n u.c)[j]?) ∧ Reads W W.heap.size 2 u.A u.n u.c (flat u.I.rng) ∧ (u.A = none → u.c = 0) ∧ u.n ≤ Rows.uptoBulk (D i) := fun i him => by
      obtain ⟨cs', h1, h2⟩ := hi i (by omega)
      obtain ⟨u, rfl, g1, g2, g3⟩ := open_inst h2
      obtain ⟨_, _, h5⟩ := World.cells?_some h1
      refine ⟨u, fun j hj => ?_, g1, g2, g3⟩
      rw [← add_of_add]
      exact h5 j hj
    have each2 : ∀ i, ∃ u : InV, i < len → (∀ j, j < 5 → W.cell? (a.add (i * 5 + j)) = (insVals u.I u.A u.n u.c)[j]?) ∧ Reads W W.heap.size 2 u.A u.n u.c (flat u.I.rng) ∧ (u.A = none → u.c = 0) ∧ u.n ≤ Rows.uptoBulk (D i) := fun i => by
      by_cases him : i < len
      · obtain ⟨u, hu⟩ := each i him; exact ⟨u, fun _ => hu⟩
      · exact ⟨⟨⟨0, 0, 0, 0, []⟩, none, 0, 0⟩, fun h => absurd h him⟩
    obtain ⟨q, hq⟩ : ∃ q : Nat → InV, ∀ i, i < len → (∀ j, j < 5 → W.cell? (a.add (i * 5 + j)) = (insVals (q i).I (q i).A (q i).n (q i).c)[j]?) ∧ Reads W W.heap.size 2 (q i).A (q i).n (q i).c (flat (q i).I.rng) ∧ ((q i).A = none → (q i).c = 0) ∧ (q i).n ≤ Rows.uptoBulk (D i) :=
      ⟨fun i => Classical.choose (each2 i), fun i => Classical.choose_spec (each2 i)⟩
    have hll : ((List.range len).map q).length = len := by simp
    have hbk : ∀ i, i < len → Rows.uptoBulk (D i) ≤ Rows.uptoBulkAll ((List.range len).map D) := fun i hil => part_bulk (List.mem_map.2 ⟨i, List.mem_range.2 hil, rfl⟩)
    have hlb := length_bulk ((List.range len).map D)
    rw [List.length_map, List.length_range] at hlb
    refine ⟨some a, len, m, (List.range len).map q, rfl, ⟨⟨hl, by unfold maxLen at hm; omega, by rw [insRow_length, hll], fun hn => ?_⟩, fun u hu => ?_⟩, ?_, fun u hu => ?_⟩
    · have h0 := (hq 0 hn).1 0 (by omega)
      rw [Nat.zero_mul, Nat.add_zero, Addr.add, if_pos rfl] at h0
      have ha := spot_none (h0.trans rfl)
      have hlt := World.block_lt_of_cell? W _ (h0.trans rfl)
      refine ⟨a.block, a.off, by rw [← ha], hlt, fun j u hu => ?_⟩
      have hj := (List.getElem?_eq_some_iff.1 hu).1
      rw [insRow_length, hll] at hj
      have hjq : j / 5 < len := by omega
      have e : j = j / 5 * 5 + j % 5 := by omega
      have hg := insRow_get ((List.range len).map q) (j / 5) (j % 5) (q (j / 5)) (by simp [hjq]) (by omega)
      rw [← e] at hg
      have hc := (hq (j / 5) hjq).1 (j % 5) (by omega)
      rw [← e, ha, add_lit, ← hg] at hc
      exact hc.trans hu
    · obtain ⟨i, hi1, rfl⟩ := List.mem_map.1 hu
      have := hq i (List.mem_range.1 hi1)
      exact ⟨this.2.1, this.2.2.1⟩
    · rw [hx]; simp only [Rows.uptoBulk]; omega
    · obtain ⟨i, hi1, rfl⟩ := List.mem_map.1 hu
      have := (hq i (List.mem_range.1 hi1)).2.2.2
      have := hbk i (List.mem_range.1 hi1)
      rw [hx]; simp only [Rows.uptoBulk]; omega
/-- A program, by its three cells. -/
theorem open_pg {fuel : Nat} {cs : List Value} {x : DataW H × List MemPlace} (h : DataW.trod enc Try.prog W 0 (fun _ => true) true fuel 30 cs = some x) :
    ∃ v : PgV, cs = pgVals v ∧ ReadsP W W.heap.size v.A v.n v.c v.L := by
  obtain ⟨xs, n, _, rfl, hl, hlen, hf⟩ := DataW.trod_struct Try.underlying30 h
  rw [cells_p] at hl
  obtain ⟨c0, c1, c2, rfl⟩ := list3g hl
  obtain ⟨y0, y1, y2, rfl⟩ := list3g (cs := xs) hlen
  have h0 : DataW.trod enc Try.prog W 0 (fun _ => true) true n 28 (([c0, c1, c2].drop 0).take (Try.prog.cellsOf 28)) = some y0 := hf 0 _ rfl
  rw [cells_insts] at h0
  change DataW.trod enc Try.prog W 0 (fun _ => true) true n 28 [c0] = some y0 at h0
  have h1 : DataW.trod enc Try.prog W 0 (fun _ => true) true n 3 (([c0, c1, c2].drop 1).take (Try.prog.cellsOf 3)) = some y1 := hf 1 _ rfl
  rw [cells_i] at h1
  change DataW.trod enc Try.prog W 0 (fun _ => true) true n 3 [c1] = some y1 at h1
  have h2 : DataW.trod enc Try.prog W 0 (fun _ => true) true n 3 (([c0, c1, c2].drop 2).take (Try.prog.cellsOf 3)) = some y2 := hf 2 _ rfl
  rw [cells_i] at h2
  change DataW.trod enc Try.prog W 0 (fun _ => true) true n 3 [c2] = some y2 at h2
  obtain ⟨A, m, c, L, e0, hr, _, _⟩ := open_insts (v := c0) h0
  obtain ⟨st, e1, _, _⟩ := DataW.trod_int Try.underlying3 h1
  obtain ⟨cp, e2, _, _⟩ := DataW.trod_int Try.underlying3 h2
  simp at e1 e2
  subst e0 e1 e2
  exact ⟨⟨A, m, c, st, cp, L⟩, rfl, hr⟩
set_option maxRecDepth 100000 in
/-- A row of programs that is handed in. -/
theorem open_pgs {b0 : Nat} {v : Value} {d : DataW H} {p : List MemPlace} (hv : Value.okWide Try.prog W .any b0 47 v) (h0 : DataW.Trod enc Try.prog W 0 (fun _ => true) true 47 v d p) :
    ∃ (A : Option Addr) (n c : Nat) (l : List PgV), v = .slice A n c ∧ ReadsG W W.heap.size A n c l := by
  obtain ⟨a0, l0, c0, rfl⟩ := okWide_slice Try.underlying47 hv
  obtain ⟨fuel, h⟩ := h0
  replace h : DataW.trod enc Try.prog W 0 (fun _ => true) true fuel 47 [.slice a0 l0 c0] = some (d, p) := h
  rcases Go.Deep.open_slice Try.underlying47 h with ⟨hcs, hx⟩ | ⟨a, len, cap, m, n, D, Pl, hcs, hb, hl, hm, hmm, hx, hi⟩
  · simp only [List.cons.injEq, and_true] at hcs
    rw [hcs]
    exact ⟨none, 0, 0, [], rfl, Reads.none_, by simp⟩
  · simp only [List.cons.injEq, and_true] at hcs
    rw [hcs]
    simp only [if_true] at hmm
    subst hmm
    rw [cells_p] at hi
    have each : ∀ i, i < len → ∃ u : PgV, (∀ j, j < 3 → W.cell? (a.add (i * 3 + j)) = (pgVals u)[j]?) ∧ ReadsP W W.heap.size u.A u.n u.c u.L := fun i him => by
      obtain ⟨cs', h1, h2⟩ := hi i (by omega)
      obtain ⟨u, rfl, g1⟩ := open_pg h2
      obtain ⟨_, _, h5⟩ := World.cells?_some h1
      refine ⟨u, fun j hj => ?_, g1⟩
      rw [← add_of_add]
      exact h5 j hj
    have each2 : ∀ i, ∃ u : PgV, i < len → (∀ j, j < 3 → W.cell? (a.add (i * 3 + j)) = (pgVals u)[j]?) ∧ ReadsP W W.heap.size u.A u.n u.c u.L := fun i => by
      by_cases him : i < len
      · obtain ⟨u, hu⟩ := each i him; exact ⟨u, fun _ => hu⟩
      · exact ⟨⟨none, 0, 0, 0, 0, []⟩, fun h => absurd h him⟩
    obtain ⟨q, hq⟩ : ∃ q : Nat → PgV, ∀ i, i < len → (∀ j, j < 3 → W.cell? (a.add (i * 3 + j)) = (pgVals (q i))[j]?) ∧ ReadsP W W.heap.size (q i).A (q i).n (q i).c (q i).L :=
      ⟨fun i => Classical.choose (each2 i), fun i => Classical.choose_spec (each2 i)⟩
    have hll : ((List.range len).map q).length = len := by simp
    refine ⟨some a, len, m, (List.range len).map q, rfl, ⟨hl, by unfold maxLen at hm; omega, by rw [pgRow_length, hll], fun hn => ?_⟩, fun u hu => ?_⟩
    · have h0 := (hq 0 hn).1 0 (by omega)
      rw [Nat.zero_mul, Nat.add_zero, Addr.add, if_pos rfl] at h0
      have ha := spot_none (h0.trans rfl)
      have hlt := World.block_lt_of_cell? W _ (h0.trans rfl)
      refine ⟨a.block, a.off, by rw [← ha], hlt, fun j u hu => ?_⟩
      have hj := (List.getElem?_eq_some_iff.1 hu).1
      rw [pgRow_length, hll] at hj
      have hjq : j / 3 < len := by omega
      have e : j = j / 3 * 3 + j % 3 := by omega
      have hg := pgRow_get ((List.range len).map q) (j / 3) (j % 3) (q (j / 3)) (by simp [hjq]) (by omega)
      rw [← e] at hg
      have hc := (hq (j / 3) hjq).1 (j % 3) (by omega)
      rw [← e, ha, add_lit, ← hg] at hc
      exact hc.trans hu
    · obtain ⟨i, hi1, rfl⟩ := List.mem_map.1 hu
      exact (hq i (List.mem_range.1 hi1)).2
set_option maxRecDepth 100000 in
theorem open_text {b0 : Nat} {v : Value} {d : DataW H} {p : List MemPlace} (hv : Value.okWide Try.prog W .any b0 36 v) (h : DataW.Trod enc Try.prog W 0 (fun _ => true) true 36 v d p) :
    ∃ (A : Option Addr) (n c : Nat) (t : List Int), v = .slice A n c ∧ Reads W W.heap.size 1 A n c (t.map (Value.int .i64)) := by
  obtain ⟨a0, l0, c0, rfl⟩ := okWide_slice Try.underlying36 hv
  obtain ⟨fuel, hf⟩ := h
  replace hf : DataW.trod enc Try.prog W 0 (fun _ => true) true fuel 36 [.slice a0 l0 c0] = some (d, p) := hf
  obtain ⟨A, n, c, t, e, _, hr, _⟩ := open_ints_v hf
  exact ⟨A, n, c, t, e, hr⟩
end
end Go.Proofs.Ytfgelkfnbohmmaa
