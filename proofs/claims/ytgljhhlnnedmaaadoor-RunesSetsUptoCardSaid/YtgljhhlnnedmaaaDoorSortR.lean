/- Ranges of the call's own, sorted by their beginnings by the library. -/
import Derived.Test.YtgljhhlnnedmaaaDoorSortLay
import Derived.Test.YtgljhhlnnedmaaaDoorFlat
import Derived.WalkLawsBesides
import Derived.Handy
namespace Go.Proofs.YtgljhhlnnedmaaaDoor
open Go.RowKit Go.Shelf Go.Lib Go.Sort

theorem flatK_eq (l : List (Int × Int)) : (flatK encR 2 l.toArray).toList = flat l := by
  apply List.ext_getElem?
  intro t
  by_cases ht : t < l.length * 2
  · have h1 : (flatK encR 2 l.toArray).toList[t]? = some ((encR l.toArray[t / 2]!)[t % 2]!) := by
      rw [Array.getElem?_toList, Array.getElem?_eq_getElem (by simpa using ht)]
      have := get_flatK encR 2 l.toArray t (by simpa using ht)
      rw [getElem!_pos _ t (by simpa using ht)] at this
      rw [this]
    rw [h1]
    clear h1
    obtain ⟨q, hq⟩ : ∃ q, t = q * 2 ∨ t = q * 2 + 1 := ⟨t / 2, by omega⟩
    obtain ⟨x, hx⟩ : ∃ x, l[q]? = some x := ⟨_, List.getElem?_eq_getElem (show q < l.length by omega)⟩
    have hg := flat_get l q x hx
    have hl : l.toArray[q]! = x := by
      have hql : q < l.length := by omega
      rw [getElem!_pos l.toArray q (by simpa using hql)]
      simpa [List.getElem?_eq_getElem hql] using hx
    rcases hq with rfl | rfl
    · rw [hg.1, show q * 2 / 2 = q from by omega, show q * 2 % 2 = 0 from by omega, hl]; rfl
    · rw [hg.2, show (q * 2 + 1) / 2 = q from by omega, show (q * 2 + 1) % 2 = 1 from by omega, hl]; rfl
  · rw [List.getElem?_eq_none (by simp; omega), List.getElem?_eq_none (by rw [flat_length]; omega)]

theorem holdsK_of_own {w : World} {base g n cap : Nat} {e : TypeId} {l : List (Int × Int)} (hl : l.length = n) (h : w.ownsRow base e 2 (.slice (some ⟨g, 0, none⟩) n cap) n (flat l)) : HoldsK encR 2 w g 0 l.toArray := by
  intro j hj
  have hj' : j < l.length * 2 := by simpa using hj
  refine ⟨?_, h.frozenAt _⟩
  rw [Nat.zero_add, h.cellAt j (by omega)]
  rw [← flatK_eq l, Array.getElem?_toList, Array.getElem?_eq_getElem hj, getElem!_pos _ j hj]
  rfl

theorem sorted_world {w : World} {base g n m cap : Nat} {e : TypeId} {os : Array Obj} {l l' : List (Int × Int)} (hl' : l'.length = n) (h : w.ownsRow base e 2 (.slice (some ⟨g, 0, none⟩) n cap) n (flat l)) :
    (sortWorldK encR 2 w g 0 m l'.toArray os).ownsRow base e 2 (.slice (some ⟨g, 0, none⟩) n cap) n (flat l') ∧ w.grownBy (sortWorldK encR 2 w g 0 m l'.toArray os) (some g) := by
  rcases h.2 with ⟨h0, _⟩ | ⟨g', cap', cur, hv, hb, hh, hnc, hcm, hcs, ht⟩
  · simp at h0
  · simp only [Value.slice.injEq, Option.some.injEq, Addr.mk.injEq, and_true, true_and] at hv
    obtain ⟨rfl, rfl⟩ := hv
    have hg : g < w.heap.size := (Array.getElem?_eq_some_iff.1 hh).1
    unfold sortWorldK putRowK
    refine ⟨⟨by rw [flat_length, hl'], .inr ⟨g, cap, putCells id 0 (flatK encR 2 l'.toArray) cur, rfl, hb, ?_, hnc, hcm, by simp [putCells, hcs], ?_⟩⟩, rfl, rfl, rfl, by simp, fun k hk hne => ?_⟩
    · rw [heap_grow_old _ _ (by simpa using hg)]
      simp [putRow, mapBlock, Sort.ahead, Array.getElem?_modify, hh, onCells]
    · rw [← flatK_eq]
      have hn2 : n * 2 ≤ cur.size := by rw [hcs]; exact Nat.mul_le_mul_right _ hnc
      apply List.ext_getElem?
      intro j
      by_cases hj : j < n * 2
      · have hjs : j < (flatK encR 2 l'.toArray).size := by simp; omega
        rw [List.getElem?_take_of_lt hj, Array.getElem?_toList, Array.getElem?_toList]
        rw [Array.getElem?_eq_getElem hjs]
        have hjc : j < cur.size := by omega
        simp only [putCells]
        rw [Array.getElem?_mapIdx, Array.getElem?_eq_getElem hjc]
        simp only [Option.map_some, Nat.zero_le, Nat.zero_add, true_and, Nat.sub_zero, id]
        rw [if_pos hjs, getElem!_pos _ j hjs]
      · rw [List.getElem?_take_eq_none (by omega), List.getElem?_eq_none (by simp; omega)]
    · rw [heap_grow_old _ _ (by simpa using hk)]
      have : g ≠ k := fun e => hne (by rw [e])
      simp [putRow, mapBlock, Sort.ahead, Array.getElem?_modify, this]

theorem ltLo (x y : Int × Int) : ltOf (fun x y : Int × Int => Lib.compareInt x.1 y.1) x y = decide (x.1 < y.1) := by
  unfold ltOf Lib.compareInt
  by_cases h1 : x.1 < y.1
  · simp [h1]
  · by_cases h2 : y.1 < x.1 <;> simp [h1, h2]
theorem swoLo : SWO (ltOf fun x y : Int × Int => Lib.compareInt x.1 y.1) where
  irrefl x := by rw [ltLo]; simp
  trans x y z h1 h2 := by rw [ltLo] at *; simp at *; omega
  ntrans x y z h1 h2 := by rw [ltLo] at *; simp at *; omega

set_option maxHeartbeats 1000000 in
theorem closure_any (x y : Int × Int) (W : World) : Calls Tryd.prog 47 #[.agg #[.int .i64 x.1, .int .i64 x.2], .agg #[.int .i64 y.1, .int .i64 y.2]] W fun e w' => e = .returned (.int .i64 (Lib.compareInt x.1 y.1)) ∧ ∃ q os', w' = grow (W.drewN q) os' := by
  have hcon := fun W' => AnyG.cmp_Compare_int cmpInt x.1 y.1 W'
  change ∀ W', Calls Tryd.prog 48 _ _ _ at hcon
  generalize Lib.compareInt x.1 y.1 = r at hcon ⊢
  go_enter Tryd.func47, Tryd.ntmps47
  go_wp2_with (go_at_call 48; refine (hcon _).mono ?_; rintro e w' ⟨rfl, rfl⟩)
  go_ret
  exact ⟨rfl, 0, _, by rw [alloc_eq_grow, alloc_eq_grow, grow_grow]; rfl⟩

theorem cmpLays (blk off size : Nat) (w : World) : CmpLays Tryd.prog 47 #[] encR 2 (fun x y => Lib.compareInt x.1 y.1) blk off size w :=
  fun _ _ _ _ x y => closure_any x y _

/-- The library's sort, over a row of the call's own. -/
theorem sortR_any {base n cap g : Nat} {l : List (Int × Int)} (w : World) (hl : l.length = n) (hn : n ≤ 4194304) (h : w.ownsRow base 55 2 (.slice (some ⟨g, 0, none⟩) n cap) n (flat l)) :
    Calls Tryd.prog 46 #[.slice (some ⟨g, 0, none⟩) n cap, .func (.func 47) #[] #[]] w fun e w' => e = .returned (.tuple #[]) ∧
      ∃ l', l'.Perm l ∧ l'.Pairwise (fun x y => x.1 ≤ y.1) ∧ w'.ownsRow base 55 2 (.slice (some ⟨g, 0, none⟩) n cap) n (flat l') ∧ w.grownBy w' (some g) := by
  have eg : ∀ args w, (callFunc 47 args).run Tryd.prog w = .ok (.enter 47 args) w := enters_of Tryd.func47 (by kernel_rfl) rfl
  have hg : g < w.heap.size := by
    rcases h.2 with ⟨h0, _⟩ | ⟨g', cap', cur, hv, hb, hh, _⟩
    · simp at h0
    · simp only [Value.slice.injEq, Option.some.injEq, Addr.mk.injEq, and_true, true_and] at hv
      obtain ⟨rfl, rfl⟩ := hv
      exact (Array.getElem?_eq_some_iff.1 hh).1
  have hcon := AnyQ.slices_SortFunc sortR 2 Tryd.isAgg55 Tryd.sizeOf55 encR (fun _ => rfl) (fun x v hv => by simp [encR] at hv; rcases hv with rfl | rfl <;> rfl) (fun x y => Lib.compareInt x.1 y.1) swoLo 47 #[] g 0 cap l.toArray w eg
    (cmpLays g 0 _ w) (holdsK_of_own hl h) hg (by simp; omega)
  change Calls Tryd.prog 46 _ _ _ at hcon
  have e1 : l.toArray.size = n := by simpa using hl
  rw [e1] at hcon
  refine hcon.mono fun e w' ⟨he, d', m, os, hp, hs, hw⟩ => ⟨he, d'.toList, ?_, ?_, ?_⟩
  · have h3 := hp.2.2
    have h1 := hp.1
    rw [e1] at h1
    have ed : d'.extract 0 n = d' := by rw [← h1]; simp
    have el : l.toArray.extract 0 n = l.toArray := by rw [← e1]; simp
    rw [ed, el] at h3
    simpa using h3
  · rw [List.pairwise_iff_getElem]
    intro i j hi hj hij
    have h1 := hp.1
    rw [e1] at h1
    have := hs i j (Nat.zero_le _) hij (by simp at hj; omega)
    rw [ltLo, decide_eq_false_iff_not] at this
    simp only [Array.length_toList] at hi hj
    rw [getElem!_pos d' j hj, getElem!_pos d' i hi] at this
    simp only [Array.getElem_toList]
    omega
  · subst hw
    have h1 := hp.1
    rw [e1] at h1
    have := sorted_world (m := m) (os := os) (l' := d'.toList) (by simpa using h1) h
    simpa using this

theorem sortR_none (A : Option Addr) (cap : Nat) (fv : Value) (w : World) :
    Calls Tryd.prog 46 #[.slice A 0 cap, fv] w fun e w' => e = .returned (.tuple #[]) ∧ w = w' :=
  (AnyF.slices_SortFunc_none sortR A cap fv w).mono fun _ _ ⟨h1, h2⟩ => ⟨h1, h2.symm⟩
end Go.Proofs.YtgljhhlnnedmaaaDoor
