/- member, other, edges of the laws on runes. -/
import Derived.Test.YtgljhhlnnedmaaaDoorHas
import Derived.Test.YtgljhhlnnedmaaaDoorMem4
import Derived.Test.YtgljhhlnnedmaaaDoorCut
import Derived.Deep.RegionHeldLaw
import Derived.Deep.AppendLies
namespace Go.Proofs.YtgljhhlnnedmaaaDoor
open Go.RowKit

set_option maxHeartbeats 1000000 in
theorem member_any (A : Option Addr) (n c B : Nat) (r : Int) (l : List (Int × Int)) (w : World) (hr : Reads w B 2 A n c (flat l)) :
    Calls Tryd.prog 32 #[.slice A n c, .int .i64 r] w fun e w' => e = .returned (.bool (memB l r)) ∧ w = w' := by
  have hlen : l.length = n := by have := hr.len; rw [flat_length] at this; omega
  have HLEN := Lib.hid hlen
  have hnc := hr.le
  have hcap := hr.cap
  have HR := Lib.hid hr
  clear hlen hr
  go_enter Tryd.func32, Tryd.ntmps32
  go_wp2_with fail
  go_loopw [5] (fun p wr => ∃ i : Nat, i ≤ n ∧ p = .int .i64 i ∧ (∀ x ∈ l.take i, decide (x.1 ≤ r ∧ r ≤ x.2) = false) ∧ w = wr) (fun p _ => n - (intOf p).toNat)
  case atStart => exact ⟨0, Nat.zero_le _, rfl, by simp, rfl⟩
  case round =>
    obtain ⟨i, hi1, rfl, hno, rfl⟩ := hrel
    have HNO := Lib.hid hno
    clear hno
    by_cases hlt : i < n
    · obtain ⟨x, hx⟩ : ∃ x, l[i]? = some x := ⟨_, List.getElem?_eq_getElem (by have := HLEN.out; omega)⟩
      obtain ⟨b, off, rfl, hb, hcell⟩ := HR.out.at_ (by omega)
      have hc1 : w.cell? ⟨b, off + i * 2, none⟩ = some (.int .i64 x.1) := hcell _ _ (flat_get l i x hx).1
      have hc2 : w.cell? ⟨b, off + i * 2 + 1, none⟩ = some (.int .i64 x.2) := by rw [Nat.add_assoc]; exact hcell _ _ (flat_get l i x hx).2
      have HX := Lib.hid hx
      obtain ⟨x1, x2⟩ := x
      clear hcell hx
      have HST := Lib.hid (show decide (x1 ≤ r ∧ r ≤ x2) = false → ∀ y ∈ l.take (i + 1), decide (y.1 ≤ r ∧ r ≤ y.2) = false from fun hd y hy => by
          rw [List.take_add_one, HX.out] at hy
          simp only [Option.toList_some, List.mem_append, List.mem_singleton] at hy
          rcases hy with hy | rfl
          · exact HNO.out y hy
          · exact hd)
      have HYES := Lib.hid (show decide (x1 ≤ r ∧ r ≤ x2) = true → memB l r = true from fun hd => List.any_eq_true.2 ⟨(x1, x2), List.mem_of_getElem? HX.out, hd⟩)
      by_cases h1 : x1 ≤ r
      · have hd1 : decide (x1 ≤ r) = true := decide_eq_true h1
        by_cases h2 : r ≤ x2
        · have hd2 : decide (r ≤ x2) = true := decide_eq_true h2
          have HM := Lib.hid (HYES.out (by simp [h1, h2]))
          go_wp2_with fail
          go_ret
          exact ⟨ret_bool HM.out.symm, rfl⟩
        · have hd2 : decide (r ≤ x2) = false := decide_eq_false h2
          go_wp2_with fail
          go_roundw
          case rel => exact ⟨i + 1, by omega, by go_num, HST.out (by simp; omega), trivial⟩
          case measure => simp [intOf]; omega
      · have hd1 : decide (x1 ≤ r) = false := decide_eq_false h1
        go_wp2_with fail
        go_roundw
        case rel => exact ⟨i + 1, by omega, by go_num, HST.out (by simp; omega), trivial⟩
        case measure => simp [intOf]; omega
    · obtain rfl : i = n := by omega
      have HM := Lib.hid (show memB l r = false from by
        have := HNO.out
        rw [List.take_of_length_le (by have := HLEN.out; omega)] at this
        unfold memB
        rw [List.any_eq_false]
        intro x hx
        rw [this x hx]; simp)
      go_wp2_with fail
      go_ret
      exact ⟨ret_bool HM.out.symm, rfl⟩

/-- A letter's other case. -/
def othR (r : Int) : Int := if 97 ≤ r ∧ r ≤ 122 then r - 32 else if 65 ≤ r ∧ r ≤ 90 then r + 32 else r
set_option maxHeartbeats 1000000 in
theorem other_any (r : Int) (w : World) : Calls Tryd.prog 33 #[.int .i64 r] w fun e w' => e = .returned (.int .i64 (othR r)) ∧ w = w' := by
  by_cases h1 : 97 ≤ r ∧ r ≤ 122
  · have H := Lib.hid (show othR r = r - 32 from by unfold othR; rw [if_pos h1])
    obtain ⟨h1, h2⟩ := h1
    go_enter Tryd.func33, Tryd.ntmps33
    go_wp2_with fail
    go_ret
    exact ⟨ret_int H.out.symm, rfl⟩
  by_cases h2 : 65 ≤ r ∧ r ≤ 90
  · have H := Lib.hid (show othR r = r + 32 from by unfold othR; rw [if_neg h1, if_pos h2])
    obtain ⟨h2, h3⟩ := h2
    have h4 : ¬ 97 ≤ r := by omega
    go_enter Tryd.func33, Tryd.ntmps33
    go_wp2_with fail
    go_ret
    exact ⟨ret_int H.out.symm, rfl⟩
  · have H := Lib.hid (show othR r = r from by unfold othR; rw [if_neg h1, if_neg h2])
    rcases (show r < 65 ∨ (90 < r ∧ r < 97) ∨ 122 < r from by omega) with g | ⟨g, g'⟩ | g
    all_goals
      clear h1 h2
      go_enter Tryd.func33, Tryd.ntmps33
      go_wp2_with fail
      go_ret
      exact ⟨ret_int H.out.symm, rfl⟩
theorem rng_two {x : Int × Int} {w : World} {b off i : Nat} {l : List (Int × Int)} (hcell : ∀ j u, (flat l)[j]? = some u → w.cell? ⟨b, off + j, none⟩ = some u) (hx : l[i]? = some x) :
    w.cell? ⟨b, off + i * 2, none⟩ = some (.int .i64 x.1) ∧ w.cell? ⟨b, off + i * 2 + 1, none⟩ = some (.int .i64 x.2) :=
  ⟨hcell _ _ (flat_get l i x hx).1, by rw [Nat.add_assoc]; exact hcell _ _ (flat_get l i x hx).2⟩

theorem below_drew' {B : Nat} {a w : World} (h : Below B a w) : Below B a w.drew := h.trans ⟨rfl, rfl, rfl, Nat.le_refl _, fun _ _ => rfl⟩
theorem four_new (w : World) (t : TypeId) (cs : List Value) : ∀ j u, cs[j]? = some u → (w.alloc (.cells cs.toArray t)).cell? ((⟨w.heap.size, 0, none⟩ : Addr).add j) = some u := by
  intro j u hj
  rw [add_lit, Nat.zero_add]
  exact ((Blk.new w t cs).cell j).trans hj

set_option maxRecDepth 100000 in
set_option maxHeartbeats 8000000 in
/-- edges: some runes, in a row of the call's own. -/
theorem edges_any (A A' C : Option Addr) (n c n' c' m d : Nat) (l l' : List (Int × Int)) (more : List Int) (w : World) (hC : C = none → d = 0) (hr : Reads w w.heap.size 2 A n c (flat l)) (hr' : Reads w w.heap.size 2 A' n' c' (flat l')) (hm : Reads w w.heap.size 1 C m d (more.map (Value.int .i64)))
    (hn : n ≤ 1048576) (hn' : n' ≤ 1048576) (hmn : m ≤ 1048576) :
    Calls Tryd.prog 31 #[.slice A n c, .slice A' n' c', .slice C m d] w fun e w' => ∃ (v : Value) (xs : List Int), e = .returned v ∧ w'.ownsRow w.heap.size 3 1 v xs.length (xs.map (Value.int .i64)) ∧ Below w.heap.size w w' := by
  obtain ⟨i0, hi, hz0, hz1, hz2⟩ := info_parts int_info
  obtain ⟨B, hB⟩ : ∃ B, B = w.heap.size := ⟨_, rfl⟩
  rw [← hB] at hr hr' hm
  rw [← hB]
  have hBs : B ≤ w.heap.size := by omega
  have hlen : l.length = n := by have := hr.len; rw [flat_length] at this; omega
  have hlen' : l'.length = n' := by have := hr'.len; rw [flat_length] at this; omega
  have HLEN := Lib.hid hlen
  have HLEN' := Lib.hid hlen'
  have HR := Lib.hid hr
  have HR' := Lib.hid hr'
  have HM := Lib.hid hm
  have HC := Lib.hid hC
  have hnc := hr.le
  have hcap := hr.cap
  have hnc' := hr'.le
  have hcap' := hr'.cap
  have hmc := hm.le
  have hmcap := hm.cap
  clear hB hlen hlen' hr hr' hm hC
  go_enter Tryd.func31, Tryd.ntmps31
  go_wp2_with fail
  go_loopw [7, 8] (fun v p wr => ∃ (i : Nat) (xs : List Int), i ≤ n ∧ i ≤ 40 ∧ p = .int .i64 i ∧ wr.ownsRow B 3 1 v xs.length (xs.map (Value.int .i64)) ∧ xs.length ≤ 17 + 4 * i ∧ Below B w wr) (fun _ p _ => n - (intOf p).toNat)
  case atStart => exact ⟨0, [-1, 0, 1, 55295, 55296, 57343, 57344, 1114111, 1114112, 65, 90, 97, 122, 64, 91, 96, 123], by omega, by omega, rfl, own_lit w B 3 1 17 _ _ hBs rfl rfl (by decide), by decide, (Below.refl _ _).alloc hBs _⟩
  case round =>
    obtain ⟨i, xs, hi1, hi4, rfl, hov, hxl, hbel⟩ := hrel
    have hszr : B ≤ wr.heap.size := Nat.le_trans hBs hbel.size
    by_cases hlt : i < n ∧ i < 40
    · obtain ⟨hlt, hlt4⟩ := hlt
      obtain ⟨x, hx⟩ : ∃ x, l[i]? = some x := ⟨_, List.getElem?_eq_getElem (by have := HLEN.out; omega)⟩
      obtain ⟨b, off, rfl, hb, hcell⟩ := (HR.out.below hbel).at_ (by omega)
      obtain ⟨hc1, hc2⟩ := rng_two hcell hx
      obtain ⟨x1, x2⟩ := x
      clear hcell hx
      simp only [] at hc1 hc2
      obtain ⟨y1, e1⟩ : ∃ y, IntKind.i64.wrap (x1 - 1) = y := ⟨_, rfl⟩
      obtain ⟨y2, e2⟩ : ∃ y, IntKind.i64.wrap (x2 + 1) = y := ⟨_, rfl⟩
      have hd1 : decide ((i : Int) < (n : Int)) = true := decide_eq_true (by omega)
      have hd2 : decide ((i : Int) < 40) = true := decide_eq_true (by omega)
      go_wp2_with fail
      have hb0 : b < wr.heap.size := by omega
      have hne : some b ≠ u7.ownBlock := fun h => by have := (hov.lt _ h.symm).1; omega
      have k1 : wr.drew.cell? ⟨b, off + i * 2, none⟩ = some (.int .i64 x1) ∧ wr.drew.cell? ⟨b, off + i * 2 + 1, none⟩ = some (.int .i64 x2) := ⟨hc1, hc2⟩
      have k2 : (wr.alloc (.cells #[.int .i64 y1, .int .i64 x1, .int .i64 x2, .int .i64 y2] 3)).drew.cell? ⟨b, off + i * 2, none⟩ = some (.int .i64 x1) ∧ (wr.alloc (.cells #[.int .i64 y1, .int .i64 x1, .int .i64 x2, .int .i64 y2] 3)).drew.cell? ⟨b, off + i * 2 + 1, none⟩ = some (.int .i64 x2) :=
        ⟨(World.cell?_alloc_lt wr _ ⟨b, off + i * 2, none⟩ hb0).trans hc1, (World.cell?_alloc_lt wr _ ⟨b, off + i * 2 + 1, none⟩ hb0).trans hc2⟩
      go_region_held_law (fun w' => w'.cell? ⟨b, off + i * 2, none⟩ = some (.int .i64 x1) ∧ w'.cell? ⟨b, off + i * 2 + 1, none⟩ = some (.int .i64 x2)) (first | exact k1 | exact k2 | exact k3) (first
        | (refine step_append_lies _ rfl (.tmp 23) (.tmp 46) 29 rfl B 3 i0 (.int .i64 0) 1 8 Tryd.underlying29 hi hz0 hz1 hz2 rfl (by decide) _ xs.length (xs.map (Value.int .i64)) rfl ((hov.alloc _).drew) ⟨wr.heap.size, 0, none⟩ 4 4 [.int .i64 y1, .int .i64 x1, .int .i64 x2, .int .i64 y2] rfl rfl (four_new wr _ [.int .i64 y1, .int .i64 x1, .int .i64 x2, .int .i64 y2]) (by simp [Value.oneCell']) (by decide) (by unfold maxLen; omega) (by omega) (by simp; omega) _ rfl ?_; intro g cap2 w2 hou2 hg2 hat2 hlt2; have k3 : w2.cell? ⟨b, off + i * 2, none⟩ = some (.int .i64 x1) ∧ w2.cell? ⟨b, off + i * 2 + 1, none⟩ = some (.int .i64 x2) := ⟨(hg2.cell_far ⟨b, off + i * 2, none⟩ (by simp; omega) hne).trans k2.1, (hg2.cell_far ⟨b, off + i * 2 + 1, none⟩ (by simp; omega) hne).trans k2.2⟩))
      have hbe2 := (below_drew' (hbel.alloc hszr (.cells #[.int .i64 y1, .int .i64 x1, .int .i64 x2, .int .i64 y2] 3))).grown hg2 (by simp; omega) (fun q hq => (hov.lt q hq).1)
      clear k1 k2 k3 hg2 hat2 hc1 hc2
      go_wp2_with fail
      refine ⟨⟨i + 1, xs ++ [y1, x1, x2, y2], by omega, by omega, by go_num, by simpa using hou2, by simp; omega, hbe2⟩, by simp [intOf]; omega⟩
    · have hx40 : xs.length ≤ 177 := by omega
      by_cases hin : i < n
      · have hge : 40 ≤ i := by omega
        clear hi1 hi4 hxl hlt
        go_wp2_with fail
        go_loopw [7, 9] (fun v p wr => ∃ (i : Nat) (xs : List Int), i ≤ n' ∧ i ≤ 40 ∧ p = .int .i64 i ∧ wr.ownsRow B 3 1 v xs.length (xs.map (Value.int .i64)) ∧ xs.length ≤ 177 + 4 * i ∧ Below B w wr) (fun _ p _ => n' - (intOf p).toNat)
        case atStart => exact ⟨0, xs, by omega, by omega, rfl, hov, by omega, hbel⟩
        case round =>
          obtain ⟨i, xs, hi1, hi4, rfl, hov, hxl, hbel⟩ := hrel
          have hszr : B ≤ wr.heap.size := Nat.le_trans hBs hbel.size
          by_cases hlt : i < n' ∧ i < 40
          · obtain ⟨hlt, hlt4⟩ := hlt
            obtain ⟨x, hx⟩ : ∃ x, l'[i]? = some x := ⟨_, List.getElem?_eq_getElem (by have := HLEN'.out; omega)⟩
            obtain ⟨b, off, rfl, hb, hcell⟩ := (HR'.out.below hbel).at_ (by omega)
            obtain ⟨hc1, hc2⟩ := rng_two hcell hx
            obtain ⟨x1, x2⟩ := x
            clear hcell hx
            simp only [] at hc1 hc2
            obtain ⟨y1, e1⟩ : ∃ y, IntKind.i64.wrap (x1 - 1) = y := ⟨_, rfl⟩
            obtain ⟨y2, e2⟩ : ∃ y, IntKind.i64.wrap (x2 + 1) = y := ⟨_, rfl⟩
            have hd1 : decide ((i : Int) < (n' : Int)) = true := decide_eq_true (by omega)
            have hd2 : decide ((i : Int) < 40) = true := decide_eq_true (by omega)
            go_wp2_with fail
            have hb0 : b < wr.heap.size := by omega
            have hne : some b ≠ u7.ownBlock := fun h => by have := (hov.lt _ h.symm).1; omega
            have k1 : wr.drew.cell? ⟨b, off + i * 2, none⟩ = some (.int .i64 x1) ∧ wr.drew.cell? ⟨b, off + i * 2 + 1, none⟩ = some (.int .i64 x2) := ⟨hc1, hc2⟩
            have k2 : (wr.alloc (.cells #[.int .i64 y1, .int .i64 x1, .int .i64 x2, .int .i64 y2] 3)).drew.cell? ⟨b, off + i * 2, none⟩ = some (.int .i64 x1) ∧ (wr.alloc (.cells #[.int .i64 y1, .int .i64 x1, .int .i64 x2, .int .i64 y2] 3)).drew.cell? ⟨b, off + i * 2 + 1, none⟩ = some (.int .i64 x2) :=
              ⟨(World.cell?_alloc_lt wr _ ⟨b, off + i * 2, none⟩ hb0).trans hc1, (World.cell?_alloc_lt wr _ ⟨b, off + i * 2 + 1, none⟩ hb0).trans hc2⟩
            go_region_held_law (fun w' => w'.cell? ⟨b, off + i * 2, none⟩ = some (.int .i64 x1) ∧ w'.cell? ⟨b, off + i * 2 + 1, none⟩ = some (.int .i64 x2)) (first | exact k1 | exact k2 | exact k3) (first
              | (refine step_append_lies _ rfl (.tmp 58) (.tmp 81) 29 rfl B 3 i0 (.int .i64 0) 1 8 Tryd.underlying29 hi hz0 hz1 hz2 rfl (by decide) _ xs.length (xs.map (Value.int .i64)) rfl ((hov.alloc _).drew) ⟨wr.heap.size, 0, none⟩ 4 4 [.int .i64 y1, .int .i64 x1, .int .i64 x2, .int .i64 y2] rfl rfl (four_new wr _ [.int .i64 y1, .int .i64 x1, .int .i64 x2, .int .i64 y2]) (by simp [Value.oneCell']) (by decide) (by unfold maxLen; omega) (by omega) (by simp; omega) _ rfl ?_; intro g cap2 w2 hou2 hg2 hat2 hlt2; have k3 : w2.cell? ⟨b, off + i * 2, none⟩ = some (.int .i64 x1) ∧ w2.cell? ⟨b, off + i * 2 + 1, none⟩ = some (.int .i64 x2) := ⟨(hg2.cell_far ⟨b, off + i * 2, none⟩ (by simp; omega) hne).trans k2.1, (hg2.cell_far ⟨b, off + i * 2 + 1, none⟩ (by simp; omega) hne).trans k2.2⟩))
            have hbe2 := (below_drew' (hbel.alloc hszr (.cells #[.int .i64 y1, .int .i64 x1, .int .i64 x2, .int .i64 y2] 3))).grown hg2 (by simp; omega) (fun q hq => (hov.lt q hq).1)
            clear k1 k2 k3 hg2 hat2 hc1 hc2
            go_wp2_with fail
            refine ⟨⟨i + 1, xs ++ [y1, x1, x2, y2], by omega, by omega, by go_num, by simpa using hou2, by simp; omega, hbe2⟩, by simp [intOf]; omega⟩
          · have hx40 : xs.length ≤ 337 := by omega
            by_cases hin : i < n'
            · have hge : 40 ≤ i := by omega
              clear hi1 hi4 hxl hlt
              obtain ⟨K, hK⟩ : ∃ K, K = xs.length + m := ⟨_, rfl⟩
              have HK := Lib.hid hK
              have hkb : K ≤ 1048913 := by omega
              clear hK
              go_wp2_with (at_builtin; refine wpList_append_reads rfl (.tmp 83) (.tmp 84) 29 rfl B 3 i0 (.int .i64 0) 1 8 Tryd.underlying29 hi hz0 hz1 hz2 rfl (by decide) _ xs.length (xs.map (Value.int .i64)) rfl hov C B m d (more.map (Value.int .i64)) rfl HC.out (HM.out.below hbel) (ints_oneCell _ _) (by unfold maxLen; omega) (by omega) hszr ?_; intro v2 w2 ha2; obtain ⟨A3, c3, h3⟩ := own_shape ha2.own; rw [← HK.out] at h3; rw [h3])
              have hbe2 := hbel.grown ha2.grown hszr (fun k hk => (hov.lt k hk).1)
              have hown := ha2.own
              rw [h3, ← List.map_append, ← HK.out] at hown
              have HOWN := Lib.hid hown
              have HBE := Lib.hid hbe2
              clear hown ha2 hbe2 hov hbel hx40 h3
              generalize xs ++ more = ys at *
              go_loopw [7, 11] (fun v p wr => ∃ (i : Nat) (zs : List Int), i ≤ K ∧ p = .int .i64 i ∧ wr.ownsRow B 3 1 v (K + i) (zs.map (Value.int .i64)) ∧ Below B w wr) (fun _ p _ => K - (intOf p).toNat)
              case atStart => exact ⟨0, ys, by omega, rfl, HOWN.out, HBE.out⟩
              case round =>
                obtain ⟨i, zs, hi1, rfl, hov, hbel⟩ := hrel
                have hszr : B ≤ wr.heap.size := Nat.le_trans hBs hbel.size
                obtain ⟨A4, c4, rfl⟩ := own_shape hov
                have hzl : zs.length = K + i := by have := hov.1; simpa using this
                have HZL := Lib.hid hzl
                clear hzl
                by_cases hlt : i < K
                · obtain ⟨z, hz⟩ : ∃ z, zs[i]? = some z := ⟨_, List.getElem?_eq_getElem (by have := HZL.out; omega)⟩
                  obtain ⟨g, rfl, _, _, _⟩ := own_form hov (by omega)
                  have hcz : wr.cell? ⟨g, i, none⟩ = some (.int .i64 z) := by rw [hov.cellAt i (by omega), List.getElem?_map, hz]; rfl
                  obtain ⟨y, e1⟩ : ∃ y, bits .xor .i64 z 32 = y := ⟨_, rfl⟩
                  clear hz
                  go_wp2_with (at_builtin; refine wpList_append_keep _ rfl (.tmp 93) (.tmp 99) 29 rfl B 3 i0 (.int .i64 0) 1 8 Tryd.underlying29 hi hz0 hz1 hz2 rfl (by decide) _ (K + i) (zs.map (Value.int .i64)) rfl (hov.alloc _) ⟨wr.heap.size, 0, none⟩ 1 1 [.int .i64 y] rfl rfl (cell_one_new _ _ _) (by simp [Value.oneCell']) (by unfold maxLen; omega) (by omega) (by simp; omega) ?_; intro v2 w2 ha2)
                  have hbe2 := (hbel.alloc hszr (.cells #[.int .i64 y] 3)).grown ha2.grown (by simp; omega) (fun k hk => (hov.lt k hk).1)
                  go_roundw
                  case rel => exact ⟨i + 1, zs ++ [y], by omega, by go_num, by rw [List.map_append]; exact ha2.own, hbe2⟩
                  case measure => simp [intOf]; omega
                · go_wp2_with fail
                  go_ret
                  exact ⟨_, zs, rfl, by rw [HZL.out]; exact hov, hbel⟩
            · clear hi1 hi4 hxl hlt
              obtain ⟨K, hK⟩ : ∃ K, K = xs.length + m := ⟨_, rfl⟩
              have HK := Lib.hid hK
              have hkb : K ≤ 1048913 := by omega
              clear hK
              go_wp2_with (at_builtin; refine wpList_append_reads rfl (.tmp 83) (.tmp 84) 29 rfl B 3 i0 (.int .i64 0) 1 8 Tryd.underlying29 hi hz0 hz1 hz2 rfl (by decide) _ xs.length (xs.map (Value.int .i64)) rfl hov C B m d (more.map (Value.int .i64)) rfl HC.out (HM.out.below hbel) (ints_oneCell _ _) (by unfold maxLen; omega) (by omega) hszr ?_; intro v2 w2 ha2; obtain ⟨A3, c3, h3⟩ := own_shape ha2.own; rw [← HK.out] at h3; rw [h3])
              have hbe2 := hbel.grown ha2.grown hszr (fun k hk => (hov.lt k hk).1)
              have hown := ha2.own
              rw [h3, ← List.map_append, ← HK.out] at hown
              have HOWN := Lib.hid hown
              have HBE := Lib.hid hbe2
              clear hown ha2 hbe2 hov hbel hx40 h3
              generalize xs ++ more = ys at *
              go_loopw [7, 11] (fun v p wr => ∃ (i : Nat) (zs : List Int), i ≤ K ∧ p = .int .i64 i ∧ wr.ownsRow B 3 1 v (K + i) (zs.map (Value.int .i64)) ∧ Below B w wr) (fun _ p _ => K - (intOf p).toNat)
              case atStart => exact ⟨0, ys, by omega, rfl, HOWN.out, HBE.out⟩
              case round =>
                obtain ⟨i, zs, hi1, rfl, hov, hbel⟩ := hrel
                have hszr : B ≤ wr.heap.size := Nat.le_trans hBs hbel.size
                obtain ⟨A4, c4, rfl⟩ := own_shape hov
                have hzl : zs.length = K + i := by have := hov.1; simpa using this
                have HZL := Lib.hid hzl
                clear hzl
                by_cases hlt : i < K
                · obtain ⟨z, hz⟩ : ∃ z, zs[i]? = some z := ⟨_, List.getElem?_eq_getElem (by have := HZL.out; omega)⟩
                  obtain ⟨g, rfl, _, _, _⟩ := own_form hov (by omega)
                  have hcz : wr.cell? ⟨g, i, none⟩ = some (.int .i64 z) := by rw [hov.cellAt i (by omega), List.getElem?_map, hz]; rfl
                  obtain ⟨y, e1⟩ : ∃ y, bits .xor .i64 z 32 = y := ⟨_, rfl⟩
                  clear hz
                  go_wp2_with (at_builtin; refine wpList_append_keep _ rfl (.tmp 93) (.tmp 99) 29 rfl B 3 i0 (.int .i64 0) 1 8 Tryd.underlying29 hi hz0 hz1 hz2 rfl (by decide) _ (K + i) (zs.map (Value.int .i64)) rfl (hov.alloc _) ⟨wr.heap.size, 0, none⟩ 1 1 [.int .i64 y] rfl rfl (cell_one_new _ _ _) (by simp [Value.oneCell']) (by unfold maxLen; omega) (by omega) (by simp; omega) ?_; intro v2 w2 ha2)
                  have hbe2 := (hbel.alloc hszr (.cells #[.int .i64 y] 3)).grown ha2.grown (by simp; omega) (fun k hk => (hov.lt k hk).1)
                  go_roundw
                  case rel => exact ⟨i + 1, zs ++ [y], by omega, by go_num, by rw [List.map_append]; exact ha2.own, hbe2⟩
                  case measure => simp [intOf]; omega
                · go_wp2_with fail
                  go_ret
                  exact ⟨_, zs, rfl, by rw [HZL.out]; exact hov, hbel⟩
      · clear hi1 hi4 hxl hlt
        go_wp2_with fail
        go_loopw [7, 9] (fun v p wr => ∃ (i : Nat) (xs : List Int), i ≤ n' ∧ i ≤ 40 ∧ p = .int .i64 i ∧ wr.ownsRow B 3 1 v xs.length (xs.map (Value.int .i64)) ∧ xs.length ≤ 177 + 4 * i ∧ Below B w wr) (fun _ p _ => n' - (intOf p).toNat)
        case atStart => exact ⟨0, xs, by omega, by omega, rfl, hov, by omega, hbel⟩
        case round =>
          obtain ⟨i, xs, hi1, hi4, rfl, hov, hxl, hbel⟩ := hrel
          have hszr : B ≤ wr.heap.size := Nat.le_trans hBs hbel.size
          by_cases hlt : i < n' ∧ i < 40
          · obtain ⟨hlt, hlt4⟩ := hlt
            obtain ⟨x, hx⟩ : ∃ x, l'[i]? = some x := ⟨_, List.getElem?_eq_getElem (by have := HLEN'.out; omega)⟩
            obtain ⟨b, off, rfl, hb, hcell⟩ := (HR'.out.below hbel).at_ (by omega)
            obtain ⟨hc1, hc2⟩ := rng_two hcell hx
            obtain ⟨x1, x2⟩ := x
            clear hcell hx
            simp only [] at hc1 hc2
            obtain ⟨y1, e1⟩ : ∃ y, IntKind.i64.wrap (x1 - 1) = y := ⟨_, rfl⟩
            obtain ⟨y2, e2⟩ : ∃ y, IntKind.i64.wrap (x2 + 1) = y := ⟨_, rfl⟩
            have hd1 : decide ((i : Int) < (n' : Int)) = true := decide_eq_true (by omega)
            have hd2 : decide ((i : Int) < 40) = true := decide_eq_true (by omega)
            go_wp2_with fail
            have hb0 : b < wr.heap.size := by omega
            have hne : some b ≠ u7.ownBlock := fun h => by have := (hov.lt _ h.symm).1; omega
            have k1 : wr.drew.cell? ⟨b, off + i * 2, none⟩ = some (.int .i64 x1) ∧ wr.drew.cell? ⟨b, off + i * 2 + 1, none⟩ = some (.int .i64 x2) := ⟨hc1, hc2⟩
            have k2 : (wr.alloc (.cells #[.int .i64 y1, .int .i64 x1, .int .i64 x2, .int .i64 y2] 3)).drew.cell? ⟨b, off + i * 2, none⟩ = some (.int .i64 x1) ∧ (wr.alloc (.cells #[.int .i64 y1, .int .i64 x1, .int .i64 x2, .int .i64 y2] 3)).drew.cell? ⟨b, off + i * 2 + 1, none⟩ = some (.int .i64 x2) :=
              ⟨(World.cell?_alloc_lt wr _ ⟨b, off + i * 2, none⟩ hb0).trans hc1, (World.cell?_alloc_lt wr _ ⟨b, off + i * 2 + 1, none⟩ hb0).trans hc2⟩
            go_region_held_law (fun w' => w'.cell? ⟨b, off + i * 2, none⟩ = some (.int .i64 x1) ∧ w'.cell? ⟨b, off + i * 2 + 1, none⟩ = some (.int .i64 x2)) (first | exact k1 | exact k2 | exact k3) (first
              | (refine step_append_lies _ rfl (.tmp 58) (.tmp 81) 29 rfl B 3 i0 (.int .i64 0) 1 8 Tryd.underlying29 hi hz0 hz1 hz2 rfl (by decide) _ xs.length (xs.map (Value.int .i64)) rfl ((hov.alloc _).drew) ⟨wr.heap.size, 0, none⟩ 4 4 [.int .i64 y1, .int .i64 x1, .int .i64 x2, .int .i64 y2] rfl rfl (four_new wr _ [.int .i64 y1, .int .i64 x1, .int .i64 x2, .int .i64 y2]) (by simp [Value.oneCell']) (by decide) (by unfold maxLen; omega) (by omega) (by simp; omega) _ rfl ?_; intro g cap2 w2 hou2 hg2 hat2 hlt2; have k3 : w2.cell? ⟨b, off + i * 2, none⟩ = some (.int .i64 x1) ∧ w2.cell? ⟨b, off + i * 2 + 1, none⟩ = some (.int .i64 x2) := ⟨(hg2.cell_far ⟨b, off + i * 2, none⟩ (by simp; omega) hne).trans k2.1, (hg2.cell_far ⟨b, off + i * 2 + 1, none⟩ (by simp; omega) hne).trans k2.2⟩))
            have hbe2 := (below_drew' (hbel.alloc hszr (.cells #[.int .i64 y1, .int .i64 x1, .int .i64 x2, .int .i64 y2] 3))).grown hg2 (by simp; omega) (fun q hq => (hov.lt q hq).1)
            clear k1 k2 k3 hg2 hat2 hc1 hc2
            go_wp2_with fail
            refine ⟨⟨i + 1, xs ++ [y1, x1, x2, y2], by omega, by omega, by go_num, by simpa using hou2, by simp; omega, hbe2⟩, by simp [intOf]; omega⟩
          · have hx40 : xs.length ≤ 337 := by omega
            by_cases hin : i < n'
            · have hge : 40 ≤ i := by omega
              clear hi1 hi4 hxl hlt
              obtain ⟨K, hK⟩ : ∃ K, K = xs.length + m := ⟨_, rfl⟩
              have HK := Lib.hid hK
              have hkb : K ≤ 1048913 := by omega
              clear hK
              go_wp2_with (at_builtin; refine wpList_append_reads rfl (.tmp 83) (.tmp 84) 29 rfl B 3 i0 (.int .i64 0) 1 8 Tryd.underlying29 hi hz0 hz1 hz2 rfl (by decide) _ xs.length (xs.map (Value.int .i64)) rfl hov C B m d (more.map (Value.int .i64)) rfl HC.out (HM.out.below hbel) (ints_oneCell _ _) (by unfold maxLen; omega) (by omega) hszr ?_; intro v2 w2 ha2; obtain ⟨A3, c3, h3⟩ := own_shape ha2.own; rw [← HK.out] at h3; rw [h3])
              have hbe2 := hbel.grown ha2.grown hszr (fun k hk => (hov.lt k hk).1)
              have hown := ha2.own
              rw [h3, ← List.map_append, ← HK.out] at hown
              have HOWN := Lib.hid hown
              have HBE := Lib.hid hbe2
              clear hown ha2 hbe2 hov hbel hx40 h3
              generalize xs ++ more = ys at *
              go_loopw [7, 11] (fun v p wr => ∃ (i : Nat) (zs : List Int), i ≤ K ∧ p = .int .i64 i ∧ wr.ownsRow B 3 1 v (K + i) (zs.map (Value.int .i64)) ∧ Below B w wr) (fun _ p _ => K - (intOf p).toNat)
              case atStart => exact ⟨0, ys, by omega, rfl, HOWN.out, HBE.out⟩
              case round =>
                obtain ⟨i, zs, hi1, rfl, hov, hbel⟩ := hrel
                have hszr : B ≤ wr.heap.size := Nat.le_trans hBs hbel.size
                obtain ⟨A4, c4, rfl⟩ := own_shape hov
                have hzl : zs.length = K + i := by have := hov.1; simpa using this
                have HZL := Lib.hid hzl
                clear hzl
                by_cases hlt : i < K
                · obtain ⟨z, hz⟩ : ∃ z, zs[i]? = some z := ⟨_, List.getElem?_eq_getElem (by have := HZL.out; omega)⟩
                  obtain ⟨g, rfl, _, _, _⟩ := own_form hov (by omega)
                  have hcz : wr.cell? ⟨g, i, none⟩ = some (.int .i64 z) := by rw [hov.cellAt i (by omega), List.getElem?_map, hz]; rfl
                  obtain ⟨y, e1⟩ : ∃ y, bits .xor .i64 z 32 = y := ⟨_, rfl⟩
                  clear hz
                  go_wp2_with (at_builtin; refine wpList_append_keep _ rfl (.tmp 93) (.tmp 99) 29 rfl B 3 i0 (.int .i64 0) 1 8 Tryd.underlying29 hi hz0 hz1 hz2 rfl (by decide) _ (K + i) (zs.map (Value.int .i64)) rfl (hov.alloc _) ⟨wr.heap.size, 0, none⟩ 1 1 [.int .i64 y] rfl rfl (cell_one_new _ _ _) (by simp [Value.oneCell']) (by unfold maxLen; omega) (by omega) (by simp; omega) ?_; intro v2 w2 ha2)
                  have hbe2 := (hbel.alloc hszr (.cells #[.int .i64 y] 3)).grown ha2.grown (by simp; omega) (fun k hk => (hov.lt k hk).1)
                  go_roundw
                  case rel => exact ⟨i + 1, zs ++ [y], by omega, by go_num, by rw [List.map_append]; exact ha2.own, hbe2⟩
                  case measure => simp [intOf]; omega
                · go_wp2_with fail
                  go_ret
                  exact ⟨_, zs, rfl, by rw [HZL.out]; exact hov, hbel⟩
            · clear hi1 hi4 hxl hlt
              obtain ⟨K, hK⟩ : ∃ K, K = xs.length + m := ⟨_, rfl⟩
              have HK := Lib.hid hK
              have hkb : K ≤ 1048913 := by omega
              clear hK
              go_wp2_with (at_builtin; refine wpList_append_reads rfl (.tmp 83) (.tmp 84) 29 rfl B 3 i0 (.int .i64 0) 1 8 Tryd.underlying29 hi hz0 hz1 hz2 rfl (by decide) _ xs.length (xs.map (Value.int .i64)) rfl hov C B m d (more.map (Value.int .i64)) rfl HC.out (HM.out.below hbel) (ints_oneCell _ _) (by unfold maxLen; omega) (by omega) hszr ?_; intro v2 w2 ha2; obtain ⟨A3, c3, h3⟩ := own_shape ha2.own; rw [← HK.out] at h3; rw [h3])
              have hbe2 := hbel.grown ha2.grown hszr (fun k hk => (hov.lt k hk).1)
              have hown := ha2.own
              rw [h3, ← List.map_append, ← HK.out] at hown
              have HOWN := Lib.hid hown
              have HBE := Lib.hid hbe2
              clear hown ha2 hbe2 hov hbel hx40 h3
              generalize xs ++ more = ys at *
              go_loopw [7, 11] (fun v p wr => ∃ (i : Nat) (zs : List Int), i ≤ K ∧ p = .int .i64 i ∧ wr.ownsRow B 3 1 v (K + i) (zs.map (Value.int .i64)) ∧ Below B w wr) (fun _ p _ => K - (intOf p).toNat)
              case atStart => exact ⟨0, ys, by omega, rfl, HOWN.out, HBE.out⟩
              case round =>
                obtain ⟨i, zs, hi1, rfl, hov, hbel⟩ := hrel
                have hszr : B ≤ wr.heap.size := Nat.le_trans hBs hbel.size
                obtain ⟨A4, c4, rfl⟩ := own_shape hov
                have hzl : zs.length = K + i := by have := hov.1; simpa using this
                have HZL := Lib.hid hzl
                clear hzl
                by_cases hlt : i < K
                · obtain ⟨z, hz⟩ : ∃ z, zs[i]? = some z := ⟨_, List.getElem?_eq_getElem (by have := HZL.out; omega)⟩
                  obtain ⟨g, rfl, _, _, _⟩ := own_form hov (by omega)
                  have hcz : wr.cell? ⟨g, i, none⟩ = some (.int .i64 z) := by rw [hov.cellAt i (by omega), List.getElem?_map, hz]; rfl
                  obtain ⟨y, e1⟩ : ∃ y, bits .xor .i64 z 32 = y := ⟨_, rfl⟩
                  clear hz
                  go_wp2_with (at_builtin; refine wpList_append_keep _ rfl (.tmp 93) (.tmp 99) 29 rfl B 3 i0 (.int .i64 0) 1 8 Tryd.underlying29 hi hz0 hz1 hz2 rfl (by decide) _ (K + i) (zs.map (Value.int .i64)) rfl (hov.alloc _) ⟨wr.heap.size, 0, none⟩ 1 1 [.int .i64 y] rfl rfl (cell_one_new _ _ _) (by simp [Value.oneCell']) (by unfold maxLen; omega) (by omega) (by simp; omega) ?_; intro v2 w2 ha2)
                  have hbe2 := (hbel.alloc hszr (.cells #[.int .i64 y] 3)).grown ha2.grown (by simp; omega) (fun k hk => (hov.lt k hk).1)
                  go_roundw
                  case rel => exact ⟨i + 1, zs ++ [y], by omega, by go_num, by rw [List.map_append]; exact ha2.own, hbe2⟩
                  case measure => simp [intOf]; omega
                · go_wp2_with fail
                  go_ret
                  exact ⟨_, zs, rfl, by rw [HZL.out]; exact hov, hbel⟩
end Go.Proofs.YtgljhhlnnedmaaaDoor
