/- meaning's walker does what the plain one does. -/
import Derived.Test.YteimpcjafgllpaaRows
import Derived.WalkKit
import Derived.ProofKit
import Derived.OpenShut
import Derived.Below
import Derived.ChangeSame
import Derived.JoinedCond
import Derived.ChangeSlices
import Derived.Deep.SlicePairs
import Derived.Deep.Slices
import Derived.Lib.SmallJoins
import Derived.Test.YteimpcjafgllpaaQ03
import Derived.Test.YteimpcjafgllpaaQ05
import Derived.Test.YteimpcjafgllpaaQ07
import Derived.Test.YteimpcjafgllpaaQ10
import Derived.Test.YteimpcjafgllpaaQ11
namespace Go.Proofs.Yteimpcjafgllpaa
open Go.RowKit
section
variable {t : List Int} {at_ : Nat}
theorem work_mono (s : Mean.St) (k : Mean.Task) : s.calls ≤ (Mean.work t at_ s k).1.calls := by
  cases k with
  | beg n pl nt K => exact Nat.le_succ _
  | dcd n pl nt K => exact Nat.le_succ _
  | go K pl nt =>
    cases K with
    | top => simp only [Mean.work, Mean.ended]; split <;> exact Nat.le_refl _
    | row l K => exact Nat.le_refl _
    | grp i K => exact Nat.le_refl _
    | dec n K => exact Nat.le_refl _
mutual
theorem one_mono : ∀ {s s' : Mean.St} {k : Mean.Task}, Mean.One t at_ s k s' → s.calls ≤ s'.calls
  | s, _, k, .mk h => Nat.le_trans (work_mono s k) (many_mono h)
theorem many_mono : ∀ {s s' : Mean.St} {l : List Mean.Task}, Mean.Many t at_ s l s' → s.calls ≤ s'.calls
  | _, _, _, .nil => Nat.le_refl _
  | _, _, _, .cons h1 h2 => Nat.le_trans (one_mono h1) (many_mono h2)
end
end
/-- What is decided about holds something. -/
def ktLp : Mean.Kt → Prop
  | .top => True
  | .row _ K => ktLp K
  | .grp _ K => ktLp K
  | .dec n K => n.subs ≠ [] ∧ ktLp K
def taskLp : Mean.Task → Prop
  | .beg _ _ _ K => ktLp K
  | .dcd n _ _ K => n.subs ≠ [] ∧ ktLp K
  | .go K _ _ => ktLp K
theorem rowT_lp {l : List Mean.Un} {pl : Nat} {nt : List Int} {K : Mean.Kt} (h : ktLp K) : taskLp (Mean.rowT l pl nt K) := by
  cases l with
  | nil => exact h
  | cons s l => exact (show ktLp (.row l K) from h)
theorem choose_lp {n : Mean.Un} {pl : Nat} {nt : List Int} {again K : Mean.Kt} (h1 : ktLp again) (h2 : ktLp K) : ∀ x ∈ Mean.choose n pl nt again K, taskLp x := by
  unfold Mean.choose
  intro x hx
  cases hs : n.subs with
  | nil => rw [hs] at hx; cases hx
  | cons s l =>
    rw [hs] at hx
    simp only [] at hx
    split at hx <;> (simp only [List.mem_cons, List.not_mem_nil, or_false] at hx; rcases hx with rfl | rfl)
    · exact h2
    · exact h1
    · exact h1
    · exact h2
theorem work_lp {t : List Int} {at_ : Nat} {s : Mean.St} {k : Mean.Task} (hn : ∀ n pl nt K, k = .beg n pl nt K → n.kind = -2 ∨ n.kind = -3 → n.subs ≠ []) (h : taskLp k) : ∀ x ∈ (Mean.work t at_ s k).2, taskLp x := by
  intro x hx
  cases k with
  | beg n pl nt K =>
    have hK : ktLp K := h
    have hnn := hn n pl nt K rfl
    simp only [Mean.work] at hx
    split at hx
    · unfold Mean.first at hx
      split at hx
      · simp only [List.mem_singleton] at hx; subst hx; exact hK
      split at hx
      · split at hx
        · simp only [List.mem_singleton] at hx; subst hx; exact hK
        · cases hx
      split at hx
      · split at hx
        · simp only [List.mem_singleton] at hx; subst hx; exact hK
        · cases hx
      split at hx
      · simp only [List.mem_singleton] at hx; subst hx; exact rowT_lp hK
      split at hx
      · obtain ⟨s, _, rfl⟩ := List.mem_map.1 hx; exact hK
      split at hx
      · split at hx
        · cases hx
        · simp only [List.mem_singleton] at hx; subst hx; exact (show ktLp (.grp n.ix K) from hK)
      split at hx
      · exact choose_lp hK hK x hx
      split at hx
      · rename_i h2
        simp only [List.mem_singleton] at hx; subst hx; exact ⟨hnn (.inl h2), hK⟩
      split at hx
      · rename_i h3
        split at hx
        · cases hx
        · simp only [List.mem_singleton] at hx; subst hx; exact (show ktLp (.dec n K) from ⟨hnn (.inr h3), hK⟩)
      · cases hx
    · cases hx
  | dcd n pl nt K =>
    simp only [Mean.work] at hx
    split at hx
    · exact choose_lp (show ktLp (.dec n K) from h) h.2 x hx
    · cases hx
  | go K pl nt =>
    cases K with
    | top => simp only [Mean.work] at hx; cases hx
    | row l K => simp only [Mean.work, List.mem_singleton] at hx; subst hx; exact rowT_lp h
    | grp i K => simp only [Mean.work, List.mem_singleton] at hx; subst hx; exact (show ktLp K from h)
    | dec n K => simp only [Mean.work, List.mem_singleton] at hx; subst hx; exact h
/-- One task, if what it begins does so. -/
theorem task_does (G : Wk) (hwf : G.wf) (hbase : ∀ w, G.cst w → G.base ≤ w.heap.size) (s s' : Mean.St) (k : Mean.Task) (hu : k.uses G.U G.t.length) (hlp : taskLp k) (hb : s.calls ≤ 4611686018427387904)
    (h : G.chain (Mean.work G.t G.at_ s k).1 (Mean.work G.t G.at_ s k).2 s') : G.does s k s' := by
  cases k with
  | beg n pl nt K =>
    simp only [Mean.work] at h
    by_cases hm : s.met (n.ad, pl, false) = 0
    · rw [if_pos hm] at h
      rcases hwf.kinds n hu.1 with e | e | e | e | e | e | e | e | e
      · exact beg_1 G hwf s s' n pl nt K e hm h hb
      · exact beg_2 G hwf s s' n pl nt K e hm h hb
      · exact beg_3 G hwf s s' n pl nt K e hm h hb
      · exact beg_4 G hwf s s' n pl nt K e hm h hb
      · exact beg_5 G hwf s s' n pl nt K e hm h hb
      · exact beg_7 G hwf s s' n pl nt K e hm h hb
      · exact beg_q G hwf s s' n pl nt K e hm h hb
      · exact beg_s G hwf s s' n pl nt K e hm h hb
      · exact beg_p G hwf s s' n pl nt K e hm h hb
    · rw [if_neg hm] at h
      obtain rfl : s' = _ := h
      exact beg_met G hwf s s n pl nt K hm trivial hb
  | dcd n pl nt K =>
    exact decide_any G hwf s s' n pl nt K hlp.1 hb h
  | go K pl nt =>
    cases K with
    | top =>
      obtain rfl : s' = _ := h
      exact top_clo G hwf s pl nt hbase
    | row l K => exact row_clo G s s' l K pl nt h
    | grp i K => exact grp_clo G s s' i K pl nt h hwf.nl.2
    | dec n K => exact dec_clo G s s' n K pl nt h
theorem wf_lp {G : Wk} (hwf : G.wf) {k : Mean.Task} (hu : k.uses G.U G.t.length) : ∀ n pl nt K, k = .beg n pl nt K → n.kind = -2 ∨ n.kind = -3 → n.subs ≠ [] := by
  rintro n pl nt K rfl h
  exact hwf.one n hu.1 (h.elim (fun h => .inr (.inr (.inl h))) (fun h => .inr (.inr (.inr h))))
mutual
theorem one_does (G : Wk) (hwf : G.wf) (hbase : ∀ w, G.cst w → G.base ≤ w.heap.size) : ∀ {s s' : Mean.St} {k : Mean.Task}, Mean.One G.t G.at_ s k s' → k.uses G.U G.t.length → taskLp k → s'.calls ≤ 4611686018427387904 → G.does s k s'
  | s, s', k, .mk h, hu, hlp, hb => task_does G hwf hbase s s' k hu hlp (Nat.le_trans (work_mono (t := G.t) (at_ := G.at_) s k) (Nat.le_trans (many_mono h) hb)) (many_does G hwf hbase h (Mean.work_uses hwf.closed hu) (work_lp (wf_lp hwf hu) hlp) hb)
theorem many_does (G : Wk) (hwf : G.wf) (hbase : ∀ w, G.cst w → G.base ≤ w.heap.size) : ∀ {s s' : Mean.St} {l : List Mean.Task}, Mean.Many G.t G.at_ s l s' → (∀ k ∈ l, k.uses G.U G.t.length) → (∀ k ∈ l, taskLp k) → s'.calls ≤ 4611686018427387904 → G.chain s l s'
  | _, _, _, .nil, _, _, _ => rfl
  | _, _, _, .cons h1 h2, hu, hlp, hb => ⟨_, one_does G hwf hbase h1 (hu _ List.mem_cons_self) (hlp _ List.mem_cons_self) (Nat.le_trans (many_mono h2) hb), many_does G hwf hbase h2 (fun k hk => hu k (List.mem_cons_of_mem _ hk)) (fun k hk => hlp k (List.mem_cons_of_mem _ hk)) hb⟩
end
end Go.Proofs.Yteimpcjafgllpaa
namespace Go.Proofs.Yteimpcjafgllpaa
open Go.ChangeShapes Go.WideShapes Go.ChangeAt Go.RowKit
theorem own : ownKnob Try.prog.godebug = none := by kernel_rfl
theorem laidOut : laidOutB Try.prog = true := by kernel_rfl
/-- The row's end where nothing that was there has turned. -/
theorem post_of_below {H : Type} {enc : TypeId × Value → H} {P : Program} {f : Func} {s : ChangeSpec} {apart fresh handsOn : Bool} {W W' : World} {args : Array Value} {v : Value} {ds gs : List (DataW H)} {before pa pv : List MemPlace}
    (hW : DataW.Whole enc P f.params.toList s.vars apart W args.toList ds gs before)
    (hres : ∀ (b : Nat) (sp : Nat → Bool) (hd : Bool), DataW.TrodAll enc P W' b sp hd f.resultTypes.toList (v.resultList f.resultTypes.size) (s.fn H (ds ++ gs)).results [])
    (hargs : DataW.TrodAll enc P W' 0 (fun b => decide (b < W.heap.size)) true f.params.toList args.toList (s.fn H (ds ++ gs)).args pa)
    (hvars : DataW.TrodVars enc P W' (fun b => decide (b < W.heap.size)) s.vars (s.fn H (ds ++ gs)).vars pv)
    (hps : before = pa ++ pv) (hb : Below W.heap.size W W') : s.post enc P f apart fresh handsOn false W args v W' := by
  refine ⟨ds, gs, before, [], pa, pv, hW, hres _ _ _, hargs, hvars, World.keptBut_mono (fun p hp => ⟨hp, ?_⟩) (hb.frame (· ∈ before)), fun h => by cases h⟩
  rw [hps, List.mem_append] at hp
  exact Or.inr hp
theorem one_le_bulk {H : Type} (d : DataW H) : 1 ≤ Rows.uptoBulk d := by
  cases d with
  | lit l => cases l <;> simp [Rows.uptoBulk]
  | nil => simp [Rows.uptoBulk]
  | ptr d => simp [Rows.uptoBulk]
  | slice elems spare => simp [Rows.uptoBulk]
  | agg parts => simp [Rows.uptoBulk]
  | iface t d => simp [Rows.uptoBulk]
  | map entries => simp [Rows.uptoBulk]
  | held h => simp [Rows.uptoBulk]
theorem part_bulk {H : Type} {d : DataW H} {l : List (DataW H)} (h : d ∈ l) : Rows.uptoBulk d ≤ Rows.uptoBulkAll l := by
  induction l with
  | nil => cases h
  | cons x r ih =>
    simp only [Rows.uptoBulkAll]
    cases List.mem_cons.1 h with
    | inl e => subst e; omega
    | inr e => have := ih e; omega
theorem length_bulk {H : Type} (l : List (DataW H)) : l.length ≤ Rows.uptoBulkAll l := by
  induction l with
  | nil => simp [Rows.uptoBulkAll]
  | cons x r ih => have := one_le_bulk x; simp only [Rows.uptoBulkAll, List.length_cons]; omega
theorem small {H : Type} {l : List (DataW H)} (hk : Rows.uptoSmall H l = true) : Rows.uptoBulkAll l ≤ 1048576 := of_decide_eq_true hk
theorem spot_none {w : World} {a : Addr} {u : Value} (h : w.cell? a = some u) : a = ⟨a.block, a.off, none⟩ := by
  unfold World.cell? at h
  split at h
  · split at h
    · cases h
    · rename_i hs
      cases a
      simp_all
  · cases h
theorem cells_slice_r : Try.prog.cellsOf 22 = 1 := by kernel_rfl
theorem cells_rng : Try.prog.cellsOf 63 = 2 := by kernel_rfl
theorem cells_i : Try.prog.cellsOf 3 = 1 := by kernel_rfl
theorem flat_at {l : List (Int × Int)} {j : Nat} {u : Value} (h : (flat l)[j]? = some u) : ∃ q x, l[q]? = some x ∧ ((j = q * 2 ∧ u = .int .i64 x.1) ∨ (j = q * 2 + 1 ∧ u = .int .i64 x.2)) := by
  have hj := (List.getElem?_eq_some_iff.1 h).1
  rw [flat_length] at hj
  have hx : l[j / 2]? = some l[j / 2] := List.getElem?_eq_getElem (by omega)
  have hg := flat_get l _ _ hx
  refine ⟨j / 2, _, hx, ?_⟩
  rcases (show j = j / 2 * 2 ∨ j = j / 2 * 2 + 1 from by omega) with e | e
  · refine .inl ⟨e, ?_⟩
    rw [e, hg.1] at h
    exact (Option.some.inj h).symm
  · refine .inr ⟨e, ?_⟩
    rw [e, hg.2] at h
    exact (Option.some.inj h).symm
theorem bulk_mem {H : Type} {d : DataW H} {l : List (DataW H)} (h : d ∈ l) : 1 ≤ Rows.uptoBulk d ∧ Rows.uptoBulk d ≤ Rows.uptoBulkAll l := ⟨one_le_bulk d, part_bulk h⟩
theorem open_rng {H : Type} {enc : TypeId × Value → H} {W : World} {fuel : Nat} {v : Value} {x : DataW H × List MemPlace}
    (h : DataW.trod enc Try.prog W 0 (fun _ => true) true fuel 22 [v] = some x) :
    ∃ (A : Option Addr) (n c : Nat) (l : List (Int × Int)), v = .slice A n c ∧ (A = none → c = 0) ∧ Reads W W.heap.size 2 A n c (flat l) ∧ (∀ y ∈ l, (Lit.int .i64 y.1).wf = true ∧ (Lit.int .i64 y.2).wf = true) ∧ n ≤ Rows.uptoBulk x.1 := by
  rcases Go.Deep.open_slice_pairs Try.underlying22 Try.underlying63 cells_rng rfl rfl cells_i cells_i h with ⟨hcs, hx⟩ | ⟨a, len, cap, m, n, V0, V1, D0, D1, P0, P1, hcs, hb, hl, hm, hmm, hx, hi⟩
  · simp only [List.cons.injEq, and_true] at hcs
    subst hcs
    exact ⟨none, 0, 0, [], rfl, fun _ => rfl, Reads.none_, by simp, by omega⟩
  · simp only [List.cons.injEq, and_true] at hcs
    subst hcs
    simp only [if_true] at hmm
    subst hmm
    have each : ∀ i, ∃ q : Int × Int, i < m → W.cell? (a.add (i * 2)) = some (.int .i64 q.1) ∧ W.cell? (a.add (i * 2 + 1)) = some (.int .i64 q.2) ∧ (Lit.int .i64 q.1).wf = true ∧ (Lit.int .i64 q.2).wf = true := by
      intro i
      by_cases him : i < m
      · obtain ⟨h0, h1, h2, h3⟩ := hi i him
        obtain ⟨n0, e0, _, w0⟩ := DataW.trod_int Try.underlying3 h2
        obtain ⟨n1, e1, _, w1⟩ := DataW.trod_int Try.underlying3 h3
        simp only [List.cons.injEq, and_true] at e0 e1
        exact ⟨(n0, n1), fun _ => ⟨by rw [h0, e0], by rw [h1, e1], w0, w1⟩⟩
      · exact ⟨(0, 0), fun h => absurd h him⟩
    obtain ⟨q, hq⟩ : ∃ q : Nat → Int × Int, ∀ i, i < m → W.cell? (a.add (i * 2)) = some (.int .i64 (q i).1) ∧ W.cell? (a.add (i * 2 + 1)) = some (.int .i64 (q i).2) ∧ (Lit.int .i64 (q i).1).wf = true ∧ (Lit.int .i64 (q i).2).wf = true :=
      ⟨fun i => Classical.choose (each i), fun i => Classical.choose_spec (each i)⟩
    have hll : ((List.range len).map q).length = len := by simp
    refine ⟨some a, len, m, (List.range len).map q, rfl, (fun h => by cases h), ⟨hl, by unfold maxLen at hm; omega, by rw [flat_length, hll], fun hn => ?_⟩, fun y hy => ?_, ?_⟩
    · have h0 := (hq 0 (by omega)).1
      rw [Nat.zero_mul, Addr.add, if_pos rfl] at h0
      have ha := spot_none h0
      have hlt := World.block_lt_of_cell? W _ h0
      refine ⟨a.block, a.off, by rw [← ha], hlt, fun j u hu => ?_⟩
      obtain ⟨i, x, hx1, hor⟩ := flat_at hu
      have hil : i < len := by have := (List.getElem?_eq_some_iff.1 hx1).1; rw [hll] at this; exact this
      obtain rfl : q i = x := by simpa [hil] using hx1
      have hqi := hq i (by omega)
      rcases hor with ⟨rfl, rfl⟩ | ⟨rfl, rfl⟩
      · have := hqi.1
        rwa [ha, add_lit] at this
      · have := hqi.2.1
        rwa [ha, add_lit] at this
    · obtain ⟨i, hi1, rfl⟩ := List.mem_map.1 hy
      have := hq i (by have := List.mem_range.1 hi1; omega)
      exact ⟨this.2.2.1, this.2.2.2⟩
    · rw [hx]
      have h1 := length_bulk ((List.range len).map fun i => DataW.agg (H := H) [D0 i, D1 i])
      rw [List.length_map, List.length_range] at h1
      simp only [Rows.uptoBulk]
      omega
theorem cells_node : Try.prog.cellsOf 25 = 9 := by kernel_rfl
theorem cells_nodes : Try.prog.cellsOf 23 = 1 := by kernel_rfl
theorem cells_b : Try.prog.cellsOf 4 = 1 := by kernel_rfl
theorem cells_s : Try.prog.cellsOf 9 = 1 := by kernel_rfl
theorem list9 {α : Type} {cs : List α} (h : cs.length = 9) : ∃ c0 c1 c2 c3 c4 c5 c6 c7 c8, cs = [c0, c1, c2, c3, c4, c5, c6, c7, c8] := by
  match cs, h with
  | [c0, c1, c2, c3, c4, c5, c6, c7, c8], _ => exact ⟨c0, c1, c2, c3, c4, c5, c6, c7, c8, rfl⟩
section
variable {H : Type} {enc : TypeId × Value → H} {W : World}
/-- A node, whatever stands below it. -/
theorem open_node : ∀ (N : Nat) (fuel : Nat) (cs : List Value) (x : DataW H × List MemPlace), DataW.trod enc Try.prog W 0 (fun _ => true) true fuel 25 cs = some x → Rows.uptoBulk x.1 ≤ N → N ≤ 1048576 →
    ∃ t : Ta, cs = t.vals ∧ RT W (· < W.heap.size) t := by
  intro N
  induction N with
  | zero =>
    intro fuel cs x _ hN _
    have := one_le_bulk x.1
    omega
  | succ N ih =>
    intro fuel cs x h hN hM
    obtain ⟨xs, n, _, rfl, hl9, hlen, hf⟩ := DataW.trod_struct Try.underlying25 h
    rw [cells_node] at hl9
    obtain ⟨c0, c1, c2, c3, c4, c5, c6, c7, c8, rfl⟩ := list9 hl9
    obtain ⟨y0, y1, y2, y3, y4, y5, y6, y7, y8, rfl⟩ := list9 (cs := xs) hlen
    have h0 : DataW.trod enc Try.prog W 0 (fun _ => true) true n 3 (([c0, c1, c2, c3, c4, c5, c6, c7, c8].drop 0).take (Try.prog.cellsOf 3)) = some y0 := hf 0 _ rfl
    rw [cells_i] at h0
    change DataW.trod enc Try.prog W 0 (fun _ => true) true n 3 [c0] = some y0 at h0
    have h1 : DataW.trod enc Try.prog W 0 (fun _ => true) true n 22 (([c0, c1, c2, c3, c4, c5, c6, c7, c8].drop 1).take (Try.prog.cellsOf 22)) = some y1 := hf 1 _ rfl
    rw [cells_slice_r] at h1
    change DataW.trod enc Try.prog W 0 (fun _ => true) true n 22 [c1] = some y1 at h1
    have h2 : DataW.trod enc Try.prog W 0 (fun _ => true) true n 3 (([c0, c1, c2, c3, c4, c5, c6, c7, c8].drop 2).take (Try.prog.cellsOf 3)) = some y2 := hf 2 _ rfl
    rw [cells_i] at h2
    change DataW.trod enc Try.prog W 0 (fun _ => true) true n 3 [c2] = some y2 at h2
    have h3 : DataW.trod enc Try.prog W 0 (fun _ => true) true n 23 (([c0, c1, c2, c3, c4, c5, c6, c7, c8].drop 3).take (Try.prog.cellsOf 23)) = some y3 := hf 3 _ rfl
    rw [cells_nodes] at h3
    change DataW.trod enc Try.prog W 0 (fun _ => true) true n 23 [c3] = some y3 at h3
    have h4 : DataW.trod enc Try.prog W 0 (fun _ => true) true n 3 (([c0, c1, c2, c3, c4, c5, c6, c7, c8].drop 4).take (Try.prog.cellsOf 3)) = some y4 := hf 4 _ rfl
    rw [cells_i] at h4
    change DataW.trod enc Try.prog W 0 (fun _ => true) true n 3 [c4] = some y4 at h4
    have h5 : DataW.trod enc Try.prog W 0 (fun _ => true) true n 3 (([c0, c1, c2, c3, c4, c5, c6, c7, c8].drop 5).take (Try.prog.cellsOf 3)) = some y5 := hf 5 _ rfl
    rw [cells_i] at h5
    change DataW.trod enc Try.prog W 0 (fun _ => true) true n 3 [c5] = some y5 at h5
    have h6 : DataW.trod enc Try.prog W 0 (fun _ => true) true n 4 (([c0, c1, c2, c3, c4, c5, c6, c7, c8].drop 6).take (Try.prog.cellsOf 4)) = some y6 := hf 6 _ rfl
    rw [cells_b] at h6
    change DataW.trod enc Try.prog W 0 (fun _ => true) true n 4 [c6] = some y6 at h6
    have h7 : DataW.trod enc Try.prog W 0 (fun _ => true) true n 3 (([c0, c1, c2, c3, c4, c5, c6, c7, c8].drop 7).take (Try.prog.cellsOf 3)) = some y7 := hf 7 _ rfl
    rw [cells_i] at h7
    change DataW.trod enc Try.prog W 0 (fun _ => true) true n 3 [c7] = some y7 at h7
    have h8 : DataW.trod enc Try.prog W 0 (fun _ => true) true n 9 (([c0, c1, c2, c3, c4, c5, c6, c7, c8].drop 8).take (Try.prog.cellsOf 9)) = some y8 := hf 8 _ rfl
    rw [cells_s] at h8
    change DataW.trod enc Try.prog W 0 (fun _ => true) true n 9 [c8] = some y8 at h8
    obtain ⟨k, e0, _, _⟩ := DataW.trod_int Try.underlying3 h0
    obtain ⟨ra, rn, rc, r, e1, hrz, hrr, _, hrb⟩ := open_rng (v := c1) h1
    obtain ⟨ast, e2, _, _⟩ := DataW.trod_int Try.underlying3 h2
    obtain ⟨mn, e4, _, _⟩ := DataW.trod_int Try.underlying3 h4
    obtain ⟨mx, e5, _, _⟩ := DataW.trod_int Try.underlying3 h5
    obtain ⟨z, e6, _⟩ := DataW.trod_bool Try.underlying4 h6
    obtain ⟨ix, e7, _, _⟩ := DataW.trod_int Try.underlying3 h7
    obtain ⟨nm, e8, hs8, _⟩ := DataW.trod_string Try.underlying9 h8
    simp at e0 e2 e4 e5 e6 e7 e8
    subst e0 e1 e2 e4 e5 e6 e7 e8
    have hrn : rn = r.length := by have := hrr.len; rw [flat_length] at this; omega
    subst hrn
    have hb1 := bulk_mem (d := y1.1) (l := List.map (·.1) [y0, y1, y2, y3, y4, y5, y6, y7, y8]) (by simp)
    have hb3 := bulk_mem (d := y3.1) (l := List.map (·.1) [y0, y1, y2, y3, y4, y5, y6, y7, y8]) (by simp)
    have hb8 := bulk_mem (d := y8.1) (l := List.map (·.1) [y0, y1, y2, y3, y4, y5, y6, y7, y8]) (by simp)
    have hbx : Rows.uptoBulkAll (List.map (·.1) [y0, y1, y2, y3, y4, y5, y6, y7, y8]) + 1 ≤ N + 1 := hN
    have hnm : nm.size ≤ 1048576 := by
      have : Rows.uptoBulk y8.1 = nm.size + 1 := by rw [hs8]; simp only [Rows.uptoBulk]; rw [Array.length_toList]; rfl
      omega
    have hsub : ∃ (A : Option Addr) (c : Nat) (l : List Ta), c3 = .slice A l.length c ∧ l.length ≤ 1048576 ∧ RdA W (· < W.heap.size) 9 A l.length c (rowT l) ∧ ∀ u ∈ l, RT W (· < W.heap.size) u := by
      rcases Go.Deep.open_slice Try.underlying23 h3 with ⟨hcs, hx⟩ | ⟨a, len, cap, m, n', D, Pl, hcs, hb, hl, hm, hmm, hx, hi⟩
      · simp only [List.cons.injEq, and_true] at hcs
        subst hcs
        exact ⟨none, 0, [], rfl, by simp, RdA.none_, by simp⟩
      · simp only [List.cons.injEq, and_true] at hcs
        subst hcs
        simp only [if_true] at hmm
        subst hmm
        rw [cells_node] at hi
        have hlb := length_bulk ((List.range len).map D)
        rw [List.length_map, List.length_range] at hlb
        have hy3 : Rows.uptoBulkAll ((List.range len).map D) + 1 ≤ Rows.uptoBulk y3.1 := by rw [hx]; simp only [Rows.uptoBulk]; omega
        have hbk : ∀ i, i < len → Rows.uptoBulk (D i) ≤ Rows.uptoBulkAll ((List.range len).map D) := fun i hil => part_bulk (List.mem_map.2 ⟨i, List.mem_range.2 hil, rfl⟩)
        have each : ∀ i, i < len → ∃ u : Ta, (∀ j, j < 9 → W.cell? (a.add (i * 9 + j)) = u.vals[j]?) ∧ RT W (· < W.heap.size) u := fun i him => by
          obtain ⟨cs', g1, g2⟩ := hi i (by omega)
          obtain ⟨u, rfl, g3⟩ := ih _ _ _ g2 (by have := hbk i him; show Rows.uptoBulk (D i) ≤ N; omega) (by omega)
          obtain ⟨_, _, h5⟩ := World.cells?_some g1
          refine ⟨u, fun j hj => ?_, g3⟩
          rw [← add_of_add]
          exact h5 j hj
        have each2 : ∀ i, ∃ u : Ta, i < len → (∀ j, j < 9 → W.cell? (a.add (i * 9 + j)) = u.vals[j]?) ∧ RT W (· < W.heap.size) u := fun i => by
          by_cases him : i < len
          · obtain ⟨u, hu⟩ := each i him; exact ⟨u, fun _ => hu⟩
          · exact ⟨.mk 0 [] none 0 0 [] none 0 0 0 false 0 ⟨#[]⟩, fun h => absurd h him⟩
        obtain ⟨q, hq⟩ : ∃ q : Nat → Ta, ∀ i, i < len → (∀ j, j < 9 → W.cell? (a.add (i * 9 + j)) = (q i).vals[j]?) ∧ RT W (· < W.heap.size) (q i) :=
          ⟨fun i => Classical.choose (each2 i), fun i => Classical.choose_spec (each2 i)⟩
        have hll : ((List.range len).map q).length = len := by simp
        refine ⟨some a, m, (List.range len).map q, by rw [hll], by rw [hll]; omega, ?_, fun u hu => ?_⟩
        · rw [hll]
          refine ⟨hl, by unfold maxLen at hm; omega, by rw [rowT_length, hll], (fun h => by cases h), fun hn => ?_⟩
          have h0 := (hq 0 hn).1 0 (by omega)
          rw [Nat.zero_mul, Nat.add_zero, Addr.add, if_pos rfl] at h0
          have hv : 0 < (q 0).vals.length := by rw [Ta.vals_length]; omega
          rw [List.getElem?_eq_getElem hv] at h0
          have ha := spot_none h0
          have hlt := World.block_lt_of_cell? W _ h0
          refine ⟨a.block, a.off, by rw [← ha], hlt, fun j u hu => ?_⟩
          have hj := (List.getElem?_eq_some_iff.1 hu).1
          rw [rowT_length, hll] at hj
          have hjq : j / 9 < len := by omega
          have e : j = j / 9 * 9 + j % 9 := by omega
          have hg := rowT_get ((List.range len).map q) (j / 9) (j % 9) (q (j / 9)) (by simp [hjq]) (by omega)
          rw [← e] at hg
          have hc := (hq (j / 9) hjq).1 (j % 9) (by omega)
          rw [← e, ha, add_lit, ← hg] at hc
          exact hc.trans hu
        · obtain ⟨i, hi1, rfl⟩ := List.mem_map.1 hu
          exact (hq i (List.mem_range.1 hi1)).2
    obtain ⟨sa, sc, l, rfl, hll, hN2, hL⟩ := hsub
    exact ⟨.mk k r ra rc ast l sa sc mn mx z ix nm, rfl, RT.of ⟨RdA.of_reads hrr hrz, by omega, hll, hnm⟩ hN2 hL⟩
theorem array9 {α : Type} {cs : Array α} (h : cs.size = 9) : ∃ c0 c1 c2 c3 c4 c5 c6 c7 c8, cs = #[c0, c1, c2, c3, c4, c5, c6, c7, c8] := by
  obtain ⟨l⟩ := cs
  match l, h with
  | [c0, c1, c2, c3, c4, c5, c6, c7, c8], _ => exact ⟨c0, c1, c2, c3, c4, c5, c6, c7, c8, rfl⟩
set_option maxRecDepth 100000 in
/-- A tree that is handed in. -/
theorem open_tree {b0 : Nat} {v : Value} {d : DataW H} {p : List MemPlace} (hv : Value.okWide Try.prog W .any b0 25 v) (h : DataW.Trod enc Try.prog W 0 (fun _ => true) true 25 v d p) (hb : Rows.uptoBulk d ≤ 1048576) :
    ∃ t : Ta, v = t.val ∧ RT W (· < W.heap.size) t := by
  obtain ⟨cs, rfl, hsz⟩ := okWide_struct Try.underlying25 hv
  obtain ⟨c0, c1, c2, c3, c4, c5, c6, c7, c8, rfl⟩ := array9 (hsz.trans cells_node)
  obtain ⟨fuel, hf⟩ := h
  obtain ⟨t, ht, hr⟩ := open_node 1048576 fuel _ _ hf hb (Nat.le_refl _)
  refine ⟨t, ?_, hr⟩
  have : [c0, c1, c2, c3, c4, c5, c6, c7, c8] = t.vals := ht
  rw [Ta.val, ← this]
end
end Go.Proofs.Yteimpcjafgllpaa
namespace Go.Proofs.Yteimpcjafgllpaa
open Go.ChangeShapes Go.WideShapes Go.ChangeAt Go.RowKit
/-- A slice of numbers by its cell. -/
theorem open_ints_v {H : Type} {enc : TypeId × Value → H} {W : World} {fuel : Nat} {v : Value} {x : DataW H × List MemPlace}
    (h : DataW.trod enc Try.prog W 0 (fun _ => true) true fuel 26 [v] = some x) :
    ∃ (A : Option Addr) (n c : Nat) (l : List Int), v = .slice A n c ∧ (A = none → c = 0) ∧ Reads W W.heap.size 1 A n c (l.map (Value.int .i64)) ∧ n ≤ Rows.uptoBulk x.1 := by
  rcases open_ints Try.underlying26 Try.underlying3 cells_i h with ⟨hcs, hx⟩ | ⟨a, len, cap, zs, hcs, _, hl, hm, hz, hx, hcell, hwz⟩
  · simp only [List.cons.injEq, and_true] at hcs
    subst hcs
    exact ⟨none, 0, 0, [], rfl, fun _ => rfl, Reads.none_, by omega⟩
  · simp only [List.cons.injEq, and_true] at hcs
    subst hcs
    simp only [if_true] at hz
    refine ⟨some a, len, cap, zs.take len, rfl, (fun h => by cases h), ⟨hl, by unfold maxLen at hm; omega, by rw [List.length_map, List.length_take]; omega, fun hn => ?_⟩, ?_⟩
    · have h0 := hcell 0 (by omega)
      rw [Addr.add, if_pos rfl] at h0
      have ha := spot_none h0
      have hlt := World.block_lt_of_cell? W _ h0
      refine ⟨a.block, a.off, by rw [← ha], hlt, fun j u hu => ?_⟩
      rw [List.getElem?_map, List.getElem?_take] at hu
      split at hu
      · rename_i hj
        have hc2 := hcell j (by omega)
        rw [ha, add_lit] at hc2
        rw [hc2]
        rw [List.getElem?_eq_getElem (show j < zs.length by omega)] at hu
        simp only [Option.map_some, Option.some.injEq] at hu
        rw [← hu, List.getD_eq_getElem?_getD, List.getElem?_eq_getElem (show j < zs.length by omega)]
        rfl
      · simp at hu
    · subst hx
      have h1 := length_bulk (lits (H := H) .i64 (zs.take len))
      simp only [Rows.uptoBulk]
      simp only [lits, List.length_map, List.length_take] at h1
      have : min len zs.length = len := by omega
      rw [this] at h1
      simp only [lits]
      omega
section
variable {H : Type} {enc : TypeId × Value → H} {W : World}
theorem rda_of {A : Option Addr} {n c : Nat} {t : List Int} (hA : A = none → c = 0) (h : Reads W W.heap.size 1 A n c (t.map (Value.int .i64))) : RdA W (· < W.heap.size) 1 A n c (t.map (Value.int .i64)) := RdA.of_reads h hA
set_option maxRecDepth 100000 in
theorem open_numbers {b0 : Nat} {v : Value} {d : DataW H} {p : List MemPlace} (hv : Value.okWide Try.prog W .any b0 26 v) (h : DataW.Trod enc Try.prog W 0 (fun _ => true) true 26 v d p) :
    ∃ (A : Option Addr) (n c : Nat) (t : List Int), v = .slice A n c ∧ RdA W (· < W.heap.size) 1 A n c (t.map (Value.int .i64)) := by
  obtain ⟨a0, len, cap, rfl⟩ := okWide_slice Try.underlying26 hv
  obtain ⟨fuel, hf⟩ := h
  have hf2 : DataW.trod enc Try.prog W 0 (fun _ => true) true fuel 26 [.slice a0 len cap] = some (d, p) := hf
  obtain ⟨A, n, c, t, e, hA, hr, -⟩ := open_ints_v hf2
  rw [e]
  exact ⟨A, n, c, t, rfl, rda_of hA hr⟩
end
end Go.Proofs.Yteimpcjafgllpaa
