/- The law's simple: a tree that is in simple form is told so. -/
import Derived.Test.YtajpkgbgfneacaaQGreat
import Derived.Test.YtajpkgbgfneacaaQSimp
import Derived.StillTailTactics
namespace Go.Proofs.Ytajpkgbgfneacaa
open Go.RowKit Go.Proofs.Ytajpkgbgfneacaa.Tr

set_option maxRecDepth 100000 in
set_option maxHeartbeats 8000000 in
theorem lawSimple_any : ∀ (t : Ta) (S : Nat → Prop) (w : World) (above : Int), RT w S t → (∀ b, S b → b < w.heap.size) → simpB t.tr above = true →
    Calls Try.prog 12 #[t.val, .int .i64 above] w fun e w' => e = .returned (.bool true) ∧ Below w.heap.size w w' := by
  intro t
  induction t using Ta.ind with
  | h t ih =>
    intro S w above h hS hsi
    obtain ⟨hb1, hb2, hb3⟩ := (simpB_iff _ _).1 hsi
    rw [Ta.tr_subs] at hb3
    clear hsi
    cases t with
    | mk k r ra rc ast l sa sc mn mx z ix nm =>
      obtain ⟨⟨hR, hrl, hll⟩, hN, hL⟩ := h.parts
      have IH := Lib.hid ih
      have HN := Lib.hid hN
      have HL := Lib.hid hL
      have HS := Lib.hid hS
      have HRR := Lib.hid hR
      clear ih hL hS h
      simp only [Ta.val, Ta.vals]
      have hb0 : Below w.heap.size w (w.alloc (.cells #[.int .i64 k, .slice ra r.length rc, .int .i64 ast, .slice sa l.length sc, .int .i64 mn, .int .i64 mx, .bool z, .int .i64 ix, .string nm] 25)) := (Below.refl _ _).alloc (Nat.le_refl _) _
      have hbl := Blk.new w 25 [.int .i64 k, .slice ra r.length rc, .int .i64 ast, .slice sa l.length sc, .int .i64 mn, .int .i64 mx, .bool z, .int .i64 ix, .string nm]
      have hsc := hN.1
      have hsc2 := hN.2.1
      have HB0 := Lib.hid hb0
      have HBL := Lib.hid hbl
      clear hb0 hbl hN hR
      simp only [Ta.tr, badRep, badIn, badK, Tr.kind, decide_eq_false_iff_not] at hb1 hb2
      have hb4 : ∀ u ∈ l, simpB u.tr k = true := fun u hu => hb3 u.tr (List.mem_map.2 ⟨u, hu, rfl⟩)
      have HB4 := Lib.hid hb4
      have hb2 := of_decide_eq_false hb2
      have hways : ((k == 6) = true ∧ (k == 4) = false ∧ (k == 5) = false ∧ (k == 1) = false ∧ ¬ 1 < mn ∧ ¬ 1 < mx ∧ (mx == 0) = false ∧ (mn == 1) = true ∧ (mx == 1) = false) ∨
          ((k == 6) = true ∧ (k == 4) = false ∧ (k == 5) = false ∧ (k == 1) = false ∧ ¬ 1 < mn ∧ ¬ 1 < mx ∧ (mx == 0) = false ∧ (mn == 1) = false) ∨
          ((k == 6) = false ∧ (k == 4) = true ∧ (above == 4) = false ∧ (k == 5) = false ∧ (k == 1) = false) ∨
          ((k == 6) = false ∧ (k == 4) = false ∧ (k == 5) = true ∧ (above == 5) = false ∧ (k == 1) = false) ∨
          ((k == 6) = false ∧ (k == 4) = false ∧ (k == 5) = false ∧ (k == 1) = true ∧ (above == 4) = false) ∨
          ((k == 6) = false ∧ (k == 4) = false ∧ (k == 5) = false ∧ (k == 1) = false) := by
        simp only [beq_iff_eq, beq_eq_false_iff_ne, ne_eq]
        omega
      clear hb1 hb2 hb3 hb4
      rcases hways with ⟨d1, d2, d3, d4, d5, d6, d7, d8, d9⟩ | ⟨d1, d2, d3, d4, d5, d6, d7, d8⟩ | ⟨d1, d2, d3, d4, d5⟩ | ⟨d1, d2, d3, d4, d5⟩ | ⟨d1, d2, d3, d4, d5⟩ | ⟨d1, d2, d3, d4⟩
      all_goals
        go_enter Try.func12, Try.ntmps12
        go_wp2_with fail
      all_goals
        generalize w.alloc (.cells #[.int .i64 k, .slice ra r.length rc, .int .i64 ast, .slice sa l.length sc, .int .i64 mn, .int .i64 mx, .bool z, .int .i64 ix, .string nm] 25) = w1 at *
        go_loopw [5] (fun iv wr => ∃ (i : Nat), i ≤ l.length ∧ iv = .int .i64 (i : Int) ∧ Below w1.heap.size w1 wr) (fun iv _ => l.length - (intOf iv).toNat)
        case atStart => exact ⟨0, Nat.zero_le _, rfl, Below.refl _ _⟩
        case round =>
          obtain ⟨i, hi, rfl, hb⟩ := hrel
          have HB := Lib.hid hb
          have r0 : wr.cell? ⟨w.heap.size, 0, none⟩ = some (.int .i64 k) := (HBL.out.below hb HBL.out.lt).cell 0
          have r3 : wr.cell? ⟨w.heap.size, 3, none⟩ = some (.slice sa l.length sc) := (HBL.out.below hb HBL.out.lt).cell 3
          have r99 := (HBL.out.below hb HBL.out.lt).lt
          clear hb
          by_cases hlt : i < l.length
          · have hlt2 : (i : Int) < (l.length : Int) := by omega
            obtain ⟨b, off, rfl, hSb, _⟩ := HN.out.2.2.2.2 (by omega)
            obtain ⟨u, hu⟩ : ∃ u, l[i]? = some u := ⟨_, List.getElem?_eq_getElem hlt⟩
            have hum : u ∈ l := List.mem_of_getElem? hu
            have hbb := HS.out b hSb
            have hBW := HB0.out.trans (HB.out.mono HB0.out.size)
            have hcell : ∀ j, j < 9 → wr.cell? ⟨b, off + i * 9 + j, none⟩ = u.vals[j]? := fun j hj => by
              rw [Nat.add_assoc]
              rw [← HN.out.node hu hj]
              exact (hBW.cell (p := ⟨b, off + (i * 9 + j), none⟩) hbb)
            have hRT := (HL.out u hum).below HS.out hBW
            have hSw : ∀ b, S b → b < wr.heap.size := fun b hb => Nat.lt_of_lt_of_le (HS.out b hb) hBW.size
            have hin := IH.out u hum S wr.drew k (hRT.drewN 1) hSw (HB4.out u hum)
            cases u with
            | mk k' r' ra' rc' a' l' sa' sc' n' m' z' i' s' =>
            simp only [Ta.vals] at hcell
            simp only [Ta.val, Ta.vals] at hin
            have c0 := hcell 0 (by omega)
            have c1 := hcell 1 (by omega)
            have c2 := hcell 2 (by omega)
            have c3 := hcell 3 (by omega)
            have c4 := hcell 4 (by omega)
            have c5 := hcell 5 (by omega)
            have c6 := hcell 6 (by omega)
            have c7 := hcell 7 (by omega)
            have c8 := hcell 8 (by omega)
            simp only [List.getElem?_cons_zero, List.getElem?_cons_succ, Nat.add_zero] at c0 c1 c2 c3 c4 c5 c6 c7 c8
            have HIN := Lib.hid hin
            clear hin hcell hu hRT hSw hBW hbb
            go_wp2_with fail
            have q3 : wr.drew.cell? ⟨w.heap.size, 3, none⟩ = some (.slice (some ⟨b, off, none⟩) l.length sc) := r3
            refine wp_region_still_tail 7 (by kernel_rfl) (by kernel_rfl) ?_
            simp only [List.take_succ_cons, List.take_zero, List.drop_succ_cons, List.drop_zero]
            change wpStill _ _ wr.drew _ _ _
            repeat still_step
            refine wpStill_nil ?_
            change wpList _ _ _ _ _ wr.drew
            go_wp2_with (go_at_call 12; refine HIN.out.mono ?_; rintro e w2 ⟨rfl, hb2⟩; have HB2 := Lib.hid hb2; clear hb2; simp only [])
            go_roundw
            case rel => exact ⟨i + 1, by omega, by go_num, (bdrewN HB.out 1).trans (HB2.out.mono HB.out.size)⟩
            case measure => simp [intOf]; omega
          · obtain rfl : i = l.length := by omega
            have hlt2 : ¬ ((l.length : Int) < (l.length : Int)) := by omega
            go_wp2_with fail
            go_ret
            exact ⟨rfl, HB0.out.trans (HB.out.mono HB0.out.size)⟩
end Go.Proofs.Ytajpkgbgfneacaa
