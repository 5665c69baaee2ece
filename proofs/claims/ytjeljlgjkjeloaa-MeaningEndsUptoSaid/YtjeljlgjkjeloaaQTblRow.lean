/- heronlaw06.table: rows of trees. -/
import Derived.Test.YtjeljlgjkjeloaaQMTimes
import Derived.BigRegion
namespace Go.Proofs.Ytjeljlgjkjeloaa
open Go.RowKit Go.Proofs.Ytjeljlgjkjeloaa.Tr Go.Proofs.Ytjeljlgjkjeloaa.Mach

set_option maxRecDepth 100000 in
set_option maxHeartbeats 8000000 in
theorem tbl_cat (r : List (Int × Int)) (ra : Option Addr) (rc : Nat) (ast : Int) (l : List Ta) (sa : Option Addr) (sc : Nat) (mn mx : Int) (z : Bool) (ix : Int) (nm : ByteArray) (ih : ∀ u ∈ l, TableOk u) (S : Nat → Prop) (w : World) (At : Option Addr) (n c : Nat) (t : List Int) (h : RT w S (Ta.mk 4 r ra rc ast l sa sc mn mx z ix nm)) (hall : allB (Ta.mk 4 r ra rc ast l sa sc mn mx z ix nm).tr = true) (hS : ∀ b, S b → b < w.heap.size) (htx : RdA w S 1 At n c (t.map (Value.int .i64))) (hn : n ≤ 64) :
    Calls Try.prog 12 #[(Ta.mk 4 r ra rc ast l sa sc mn mx z ix nm).val, .slice At n c] w (TblRet n t (Ta.mk 4 r ra rc ast l sa sc mn mx z ix nm).tr w) := by
  have hb0 : Below w.heap.size w (w.alloc (.cells #[.int .i64 4, .slice ra r.length rc, .int .i64 ast, .slice sa l.length sc, .int .i64 mn, .int .i64 mx, .bool z, .int .i64 ix, .string nm] 28)) := (Below.refl _ _).alloc (Nat.le_refl _) _
  have HBL0 := Lib.hid (Blk.new w 28 [.int .i64 4, .slice ra r.length rc, .int .i64 ast, .slice sa l.length sc, .int .i64 mn, .int .i64 mx, .bool z, .int .i64 ix, .string nm])
  obtain ⟨⟨hR, hrl, hll, -⟩, hN, hL⟩ := h.parts
  have HB0 := Lib.hid hb0
  have HR := Lib.hid hR
  have IH := Lib.hid ih
  have HN := Lib.hid hN
  have HL := Lib.hid hL
  have HS := Lib.hid hS
  have HTX := Lib.hid htx
  have HALL := Lib.hid hall
  have htl : t.length = n := by have := htx.2.2.1; rw [List.length_map] at this; omega
  have HTL := Lib.hid htl
  have hnc := htx.1
  have hnc2 := htx.2.1
  have hwn : IntKind.i64.wrap ((n : Int) + 1) = (n : Int) + 1 := by rw [IntKind.wrap_i64]; omega
  have hec : ((n + 1 : Nat) : Int) = (n : Int) + 1 := by omega
  have hli := lines_any (n + 1) (w.alloc (.cells #[.int .i64 4, .slice ra r.length rc, .int .i64 ast, .slice sa l.length sc, .int .i64 mn, .int .i64 mx, .bool z, .int .i64 ix, .string nm] 28)) (by omega) (by omega)
  rw [hec] at hli
  have HLI := Lib.hid hli
  have HEC := Lib.hid hec
  clear ih h hall hS htx hb0 hli hec htl hR hN hL
  simp only [Ta.val, Ta.vals]
  go_enter Try.func12, Try.ntmps12
  go_wp2_with fail
  refine HLI.out.mono ?_
  rintro e w1 ⟨b, o, c1, gs, rfl, hb1, ht1⟩
  have hbs0 : (w.alloc (.cells #[.int .i64 4, .slice ra r.length rc, .int .i64 ast, .slice sa l.length sc, .int .i64 mn, .int .i64 mx, .bool z, .int .i64 ix, .string nm] 28)).heap.size = w.heap.size + 1 := by simp
  have HT1 := Lib.hid (show Tab w1 (w.heap.size + 1) b o (n + 1) gs _ from hbs0 ▸ ht1)
  have HB1 := Lib.hid (HB0.out.trans (hb1.mono HB0.out.size))
  have HBL1 := Lib.hid (HBL0.out.below hb1 HBL0.out.lt)
  have k0 : w1.cell? ⟨w.heap.size, 0, none⟩ = some (.int .i64 4) := HBL1.out.cell 0
  clear hb1 ht1 HLI
  simp only []
  have hst := stays_any (n + 1) w1 (by omega) (by omega)
  rw [HEC.out] at hst
  have HST := Lib.hid hst
  clear hst
  go_wp2_with fail
  refine HST.out.mono ?_
  rintro e w2 ⟨b, o, c2, gs, rfl, hb2, ht2⟩
  have HB2 := Lib.hid (HB1.out.trans (hb2.mono HB1.out.size))
  have HT2 := Lib.hid (show Tab w2 (w.heap.size + 1) b o (n + 1) gs _ from ht2.low HBL1.out.lt)
  have HBL2 := Lib.hid (HBL1.out.below hb2 HBL1.out.lt)
  clear hb2 ht2 HST k0
  simp only []
  have HSB := Lib.hid (show ∀ u ∈ l, allB u.tr = true from fun u hu => by
    have := ((allB_iff _).1 HALL.out).2
    rw [Ta.tr_subs] at this
    exact this _ (List.mem_map.2 ⟨u, hu, rfl⟩))
  have hsc := HN.out.1
  have hsc2 := HN.out.2.1
  go_wp2_with fail
  go_loopw [6, 10] (fun ov iv wr => ∃ (i b o c : Nat) (gs : List Nat) (f : Fn2), i ≤ l.length ∧ iv = .int .i64 (i : Int) ∧ ov = .slice (some ⟨b, o, none⟩) (n + 1) c ∧ Below w2.heap.size w2 wr ∧ Tab wr (w.heap.size + 1) b o (n + 1) gs f ∧ Rep (n + 1) f (LTc t (trs (l.take i)))) (fun _ iv _ => l.length - (intOf iv).toNat)
  case atStart => exact ⟨0, b, o, c2, gs, _, Nat.zero_le _, rfl, rfl, Below.refl _ _, HT2.out, rep_id.iff fun i j => by rw [List.take_zero, trs, LTc]⟩
  case round =>
    obtain ⟨i, b, o, c9, gs, f, hi, rfl, rfl, hb, ht, hf⟩ := hrel
    have HB := Lib.hid hb
    have HBW := Lib.hid (HB2.out.trans (hb.mono HB2.out.size))
    have HT := Lib.hid ht
    have HF := Lib.hid hf
    have HBLW := Lib.hid (HBL2.out.below hb HBL2.out.lt)
    have r3 : wr.cell? ⟨w.heap.size, 3, none⟩ = some (.slice sa l.length sc) := HBLW.out.cell 3
    clear hb ht hf
    by_cases hlt : i < l.length
    · have hlt2 : (i : Int) < (l.length : Int) := by omega
      obtain ⟨b0, off0, rfl, hSb0, _⟩ := HN.out.2.2.2.2 (by omega)
      obtain ⟨u, hu⟩ : ∃ u, l[i]? = some u := ⟨_, List.getElem?_eq_getElem hlt⟩
      have hum : u ∈ l := List.mem_of_getElem? hu
      have hbb := HS.out b0 hSb0
      have hcell : ∀ j, j < 9 → wr.cell? ⟨b0, off0 + i * 9 + j, none⟩ = u.vals[j]? := fun j hj => by
        rw [Nat.add_assoc, ← HN.out.node hu hj]
        exact HBW.out.cell (p := ⟨b0, off0 + (i * 9 + j), none⟩) hbb
      have hin := IH.out u hum S wr At n c t ((HL.out u hum).below HS.out HBW.out) (HSB.out u hum) (fun b hb => Nat.lt_of_lt_of_le (HS.out b hb) HBW.out.size) (HTX.out.go fun b hb => HBW.out.block b (HS.out b hb)) hn
      have HTK1 := Lib.hid (show trs (l.take (i + 1)) = trs (l.take i) ++ [u.tr] from by rw [List.take_add_one, hu, trs_map, trs_map, List.map_append]; rfl)
      cases u with
      | mk k' r' ra' rc' a' l' sa' sc' n' m' z' i' s' =>
      simp only [Ta.vals] at hcell
      simp only [Ta.val, Ta.vals] at hin
      have d0 := hcell 0 (by omega)
      have d1 := hcell 1 (by omega)
      have d2 := hcell 2 (by omega)
      have d3 := hcell 3 (by omega)
      have d4 := hcell 4 (by omega)
      have d5 := hcell 5 (by omega)
      have d6 := hcell 6 (by omega)
      have d7 := hcell 7 (by omega)
      have d8 := hcell 8 (by omega)
      simp only [List.getElem?_cons_zero, List.getElem?_cons_succ, Nat.add_zero] at d0 d1 d2 d3 d4 d5 d6 d7 d8
      have HIN := Lib.hid hin
      clear hin hcell hu hum
      go_wp2_with fail
      refine HIN.out.mono ?_
      rintro e w3 ⟨f3, ⟨b3, o3, c3, g3, rfl, hb3, ht3⟩, hf3⟩
      have HB3 := Lib.hid (HB.out.trans (hb3.mono HB.out.size))
      have HOP := Lib.hid (through_any (n := n + 1) (ca := c9) (cb := c3) w3 (by omega) (by omega) (HT.out.below hb3) ht3)
      have HF3 := Lib.hid hf3
      have HBL3 := Lib.hid (HBLW.out.below hb3 HBLW.out.lt)
      clear hb3 ht3 hf3 d0 d1 d2 d3 d4 d5 d6 d7 d8
      simp only []
      go_wp2_with fail
      refine HOP.out.mono ?_
      rintro e w4 ⟨b4, o4, c4, g4, rfl, hb4, ht4⟩
      have HB4 := Lib.hid (HB3.out.trans (hb4.mono HB3.out.size))
      have HT4 := Lib.hid (ht4.low (HBL3.out.lt))
      clear hb4 ht4
      simp only []
      go_wp2_with fail
      go_roundw
      case rel =>
        have hf := HF.out
        have hf3 := HF3.out
        exact ⟨i + 1, b4, o4, c4, g4, _, by omega, by go_num, rfl, HB4.out, HT4.out, (rep_thr hf hf3 (HTL.out ▸ bdd_ltc)).iff fun i j => by rw [HTK1.out, ltc_snoc]⟩
      case measure => simp [intOf]; omega
    · obtain rfl : i = l.length := by omega
      have hlt2 : ¬ ((l.length : Int) < (l.length : Int)) := by omega
      go_wp2_with fail
      go_ret
      have hf := HF.out
      rw [List.take_length] at hf
      have HLT := show ∀ i j, LT t (Ta.mk 4 r ra rc ast l sa sc mn mx z ix nm).tr i j ↔ LTc t (trs l) i j from fun i j => by rw [Ta.tr, LT]; simp
      exact ⟨_, ⟨b, o, c9, gs, rfl, HBW.out, HT.out.low (Nat.le_succ _)⟩, hf.iff fun i j => (HLT i j).symm⟩
set_option maxRecDepth 100000 in
set_option maxHeartbeats 8000000 in
theorem tbl_grp (r : List (Int × Int)) (ra : Option Addr) (rc : Nat) (ast : Int) (l : List Ta) (sa : Option Addr) (sc : Nat) (mn mx : Int) (z : Bool) (ix : Int) (nm : ByteArray) (ih : ∀ u ∈ l, TableOk u) (S : Nat → Prop) (w : World) (At : Option Addr) (n c : Nat) (t : List Int) (h : RT w S (Ta.mk 7 r ra rc ast l sa sc mn mx z ix nm)) (hall : allB (Ta.mk 7 r ra rc ast l sa sc mn mx z ix nm).tr = true) (hS : ∀ b, S b → b < w.heap.size) (htx : RdA w S 1 At n c (t.map (Value.int .i64))) (hn : n ≤ 64) :
    Calls Try.prog 12 #[(Ta.mk 7 r ra rc ast l sa sc mn mx z ix nm).val, .slice At n c] w (TblRet n t (Ta.mk 7 r ra rc ast l sa sc mn mx z ix nm).tr w) := by
  have hb0 : Below w.heap.size w (w.alloc (.cells #[.int .i64 7, .slice ra r.length rc, .int .i64 ast, .slice sa l.length sc, .int .i64 mn, .int .i64 mx, .bool z, .int .i64 ix, .string nm] 28)) := (Below.refl _ _).alloc (Nat.le_refl _) _
  have HBL0 := Lib.hid (Blk.new w 28 [.int .i64 7, .slice ra r.length rc, .int .i64 ast, .slice sa l.length sc, .int .i64 mn, .int .i64 mx, .bool z, .int .i64 ix, .string nm])
  obtain ⟨⟨hR, hrl, hll, -⟩, hN, hL⟩ := h.parts
  have HB0 := Lib.hid hb0
  have HR := Lib.hid hR
  have IH := Lib.hid ih
  have HN := Lib.hid hN
  have HL := Lib.hid hL
  have HS := Lib.hid hS
  have HTX := Lib.hid htx
  have HALL := Lib.hid hall
  have htl : t.length = n := by have := htx.2.2.1; rw [List.length_map] at this; omega
  have HTL := Lib.hid htl
  have hnc := htx.1
  have hnc2 := htx.2.1
  have hwn : IntKind.i64.wrap ((n : Int) + 1) = (n : Int) + 1 := by rw [IntKind.wrap_i64]; omega
  have hec : ((n + 1 : Nat) : Int) = (n : Int) + 1 := by omega
  have hli := lines_any (n + 1) (w.alloc (.cells #[.int .i64 7, .slice ra r.length rc, .int .i64 ast, .slice sa l.length sc, .int .i64 mn, .int .i64 mx, .bool z, .int .i64 ix, .string nm] 28)) (by omega) (by omega)
  rw [hec] at hli
  have HLI := Lib.hid hli
  have HEC := Lib.hid hec
  clear ih h hall hS htx hb0 hli hec htl hR hN hL
  simp only [Ta.val, Ta.vals]
  go_enter Try.func12, Try.ntmps12
  go_wp2_with fail
  refine HLI.out.mono ?_
  rintro e w1 ⟨b, o, c1, gs, rfl, hb1, ht1⟩
  have hbs0 : (w.alloc (.cells #[.int .i64 7, .slice ra r.length rc, .int .i64 ast, .slice sa l.length sc, .int .i64 mn, .int .i64 mx, .bool z, .int .i64 ix, .string nm] 28)).heap.size = w.heap.size + 1 := by simp
  have HT1 := Lib.hid (show Tab w1 (w.heap.size + 1) b o (n + 1) gs _ from hbs0 ▸ ht1)
  have HB1 := Lib.hid (HB0.out.trans (hb1.mono HB0.out.size))
  have HBL1 := Lib.hid (HBL0.out.below hb1 HBL0.out.lt)
  have k0 : w1.cell? ⟨w.heap.size, 0, none⟩ = some (.int .i64 7) := HBL1.out.cell 0
  clear hb1 ht1 HLI
  simp only []
  have hst := stays_any (n + 1) w1 (by omega) (by omega)
  rw [HEC.out] at hst
  have HST := Lib.hid hst
  clear hst
  go_wp2_with fail
  refine HST.out.mono ?_
  rintro e w2 ⟨b, o, c2, gs, rfl, hb2, ht2⟩
  have HB2 := Lib.hid (HB1.out.trans (hb2.mono HB1.out.size))
  have HT2 := Lib.hid (show Tab w2 (w.heap.size + 1) b o (n + 1) gs _ from ht2.low HBL1.out.lt)
  have HBL2 := Lib.hid (HBL1.out.below hb2 HBL1.out.lt)
  clear hb2 ht2 HST k0
  simp only []
  have HSB := Lib.hid (show ∀ u ∈ l, allB u.tr = true from fun u hu => by
    have := ((allB_iff _).1 HALL.out).2
    rw [Ta.tr_subs] at this
    exact this _ (List.mem_map.2 ⟨u, hu, rfl⟩))
  have hsc := HN.out.1
  have hsc2 := HN.out.2.1
  go_wp2_with fail
  go_loopw [6, 10] (fun ov iv wr => ∃ (i b o c : Nat) (gs : List Nat) (f : Fn2), i ≤ l.length ∧ iv = .int .i64 (i : Int) ∧ ov = .slice (some ⟨b, o, none⟩) (n + 1) c ∧ Below w2.heap.size w2 wr ∧ Tab wr (w.heap.size + 1) b o (n + 1) gs f ∧ Rep (n + 1) f (LTc t (trs (l.take i)))) (fun _ iv _ => l.length - (intOf iv).toNat)
  case atStart => exact ⟨0, b, o, c2, gs, _, Nat.zero_le _, rfl, rfl, Below.refl _ _, HT2.out, rep_id.iff fun i j => by rw [List.take_zero, trs, LTc]⟩
  case round =>
    obtain ⟨i, b, o, c9, gs, f, hi, rfl, rfl, hb, ht, hf⟩ := hrel
    have HB := Lib.hid hb
    have HBW := Lib.hid (HB2.out.trans (hb.mono HB2.out.size))
    have HT := Lib.hid ht
    have HF := Lib.hid hf
    have HBLW := Lib.hid (HBL2.out.below hb HBL2.out.lt)
    have r3 : wr.cell? ⟨w.heap.size, 3, none⟩ = some (.slice sa l.length sc) := HBLW.out.cell 3
    clear hb ht hf
    by_cases hlt : i < l.length
    · have hlt2 : (i : Int) < (l.length : Int) := by omega
      obtain ⟨b0, off0, rfl, hSb0, _⟩ := HN.out.2.2.2.2 (by omega)
      obtain ⟨u, hu⟩ : ∃ u, l[i]? = some u := ⟨_, List.getElem?_eq_getElem hlt⟩
      have hum : u ∈ l := List.mem_of_getElem? hu
      have hbb := HS.out b0 hSb0
      have hcell : ∀ j, j < 9 → wr.cell? ⟨b0, off0 + i * 9 + j, none⟩ = u.vals[j]? := fun j hj => by
        rw [Nat.add_assoc, ← HN.out.node hu hj]
        exact HBW.out.cell (p := ⟨b0, off0 + (i * 9 + j), none⟩) hbb
      have hin := IH.out u hum S wr At n c t ((HL.out u hum).below HS.out HBW.out) (HSB.out u hum) (fun b hb => Nat.lt_of_lt_of_le (HS.out b hb) HBW.out.size) (HTX.out.go fun b hb => HBW.out.block b (HS.out b hb)) hn
      have HTK1 := Lib.hid (show trs (l.take (i + 1)) = trs (l.take i) ++ [u.tr] from by rw [List.take_add_one, hu, trs_map, trs_map, List.map_append]; rfl)
      cases u with
      | mk k' r' ra' rc' a' l' sa' sc' n' m' z' i' s' =>
      simp only [Ta.vals] at hcell
      simp only [Ta.val, Ta.vals] at hin
      have d0 := hcell 0 (by omega)
      have d1 := hcell 1 (by omega)
      have d2 := hcell 2 (by omega)
      have d3 := hcell 3 (by omega)
      have d4 := hcell 4 (by omega)
      have d5 := hcell 5 (by omega)
      have d6 := hcell 6 (by omega)
      have d7 := hcell 7 (by omega)
      have d8 := hcell 8 (by omega)
      simp only [List.getElem?_cons_zero, List.getElem?_cons_succ, Nat.add_zero] at d0 d1 d2 d3 d4 d5 d6 d7 d8
      have HIN := Lib.hid hin
      clear hin hcell hu hum
      go_wp2_with fail
      refine HIN.out.mono ?_
      rintro e w3 ⟨f3, ⟨b3, o3, c3, g3, rfl, hb3, ht3⟩, hf3⟩
      have HB3 := Lib.hid (HB.out.trans (hb3.mono HB.out.size))
      have HOP := Lib.hid (through_any (n := n + 1) (ca := c9) (cb := c3) w3 (by omega) (by omega) (HT.out.below hb3) ht3)
      have HF3 := Lib.hid hf3
      have HBL3 := Lib.hid (HBLW.out.below hb3 HBLW.out.lt)
      clear hb3 ht3 hf3 d0 d1 d2 d3 d4 d5 d6 d7 d8
      simp only []
      go_wp2_with fail
      refine HOP.out.mono ?_
      rintro e w4 ⟨b4, o4, c4, g4, rfl, hb4, ht4⟩
      have HB4 := Lib.hid (HB3.out.trans (hb4.mono HB3.out.size))
      have HT4 := Lib.hid (ht4.low (HBL3.out.lt))
      clear hb4 ht4
      simp only []
      go_wp2_with fail
      go_roundw
      case rel =>
        have hf := HF.out
        have hf3 := HF3.out
        exact ⟨i + 1, b4, o4, c4, g4, _, by omega, by go_num, rfl, HB4.out, HT4.out, (rep_thr hf hf3 (HTL.out ▸ bdd_ltc)).iff fun i j => by rw [HTK1.out, ltc_snoc]⟩
      case measure => simp [intOf]; omega
    · obtain rfl : i = l.length := by omega
      have hlt2 : ¬ ((l.length : Int) < (l.length : Int)) := by omega
      go_wp2_with fail
      go_ret
      have hf := HF.out
      rw [List.take_length] at hf
      have hl1 : (trs l).length = 1 := by
        have := ((allB_iff _).1 HALL.out).1
        unfold Ta.tr nodeB at this
        dsimp only at this
        unfold nodeF at this
        simp only [reduceIte, Int.reduceEq, Bool.and_eq_true, beq_iff_eq] at this
        exact this.2.1
      obtain ⟨x, hx⟩ := List.length_eq_one_iff.1 hl1
      have HLT := show ∀ i j, LT t (Ta.mk 7 r ra rc ast l sa sc mn mx z ix nm).tr i j ↔ LTh t (trs l) i j from fun i j => by rw [Ta.tr, LT]; simp
      exact ⟨_, ⟨b, o, c9, gs, rfl, HBW.out, HT.out.low (Nat.le_succ _)⟩, hf.iff fun i j => by rw [HLT, hx, LTc, LTh]; simp only [LTc]; exact ⟨fun ⟨m, h1, h2⟩ => by subst h2; exact h1, fun h => ⟨j, h, rfl⟩⟩⟩
set_option maxRecDepth 100000 in
set_option maxHeartbeats 8000000 in
theorem tbl_alt (r : List (Int × Int)) (ra : Option Addr) (rc : Nat) (ast : Int) (l : List Ta) (sa : Option Addr) (sc : Nat) (mn mx : Int) (z : Bool) (ix : Int) (nm : ByteArray) (ih : ∀ u ∈ l, TableOk u) (S : Nat → Prop) (w : World) (At : Option Addr) (n c : Nat) (t : List Int) (h : RT w S (Ta.mk 5 r ra rc ast l sa sc mn mx z ix nm)) (hall : allB (Ta.mk 5 r ra rc ast l sa sc mn mx z ix nm).tr = true) (hS : ∀ b, S b → b < w.heap.size) (htx : RdA w S 1 At n c (t.map (Value.int .i64))) (hn : n ≤ 64) :
    Calls Try.prog 12 #[(Ta.mk 5 r ra rc ast l sa sc mn mx z ix nm).val, .slice At n c] w (TblRet n t (Ta.mk 5 r ra rc ast l sa sc mn mx z ix nm).tr w) := by
  have hb0 : Below w.heap.size w (w.alloc (.cells #[.int .i64 5, .slice ra r.length rc, .int .i64 ast, .slice sa l.length sc, .int .i64 mn, .int .i64 mx, .bool z, .int .i64 ix, .string nm] 28)) := (Below.refl _ _).alloc (Nat.le_refl _) _
  have HBL0 := Lib.hid (Blk.new w 28 [.int .i64 5, .slice ra r.length rc, .int .i64 ast, .slice sa l.length sc, .int .i64 mn, .int .i64 mx, .bool z, .int .i64 ix, .string nm])
  obtain ⟨⟨hR, hrl, hll, -⟩, hN, hL⟩ := h.parts
  have HB0 := Lib.hid hb0
  have HR := Lib.hid hR
  have IH := Lib.hid ih
  have HN := Lib.hid hN
  have HL := Lib.hid hL
  have HS := Lib.hid hS
  have HTX := Lib.hid htx
  have HALL := Lib.hid hall
  have htl : t.length = n := by have := htx.2.2.1; rw [List.length_map] at this; omega
  have HTL := Lib.hid htl
  have hnc := htx.1
  have hnc2 := htx.2.1
  have hwn : IntKind.i64.wrap ((n : Int) + 1) = (n : Int) + 1 := by rw [IntKind.wrap_i64]; omega
  have hec : ((n + 1 : Nat) : Int) = (n : Int) + 1 := by omega
  have hli := lines_any (n + 1) (w.alloc (.cells #[.int .i64 5, .slice ra r.length rc, .int .i64 ast, .slice sa l.length sc, .int .i64 mn, .int .i64 mx, .bool z, .int .i64 ix, .string nm] 28)) (by omega) (by omega)
  rw [hec] at hli
  have HLI := Lib.hid hli
  have HEC := Lib.hid hec
  clear ih h hall hS htx hb0 hli hec htl hR hN hL
  simp only [Ta.val, Ta.vals]
  go_enter Try.func12, Try.ntmps12
  go_wp2_with fail
  refine HLI.out.mono ?_
  rintro e w1 ⟨b, o, c1, gs, rfl, hb1, ht1⟩
  have hbs0 : (w.alloc (.cells #[.int .i64 5, .slice ra r.length rc, .int .i64 ast, .slice sa l.length sc, .int .i64 mn, .int .i64 mx, .bool z, .int .i64 ix, .string nm] 28)).heap.size = w.heap.size + 1 := by simp
  have HT1 := Lib.hid (show Tab w1 (w.heap.size + 1) b o (n + 1) gs _ from hbs0 ▸ ht1)
  have HB1 := Lib.hid (HB0.out.trans (hb1.mono HB0.out.size))
  have HBL1 := Lib.hid (HBL0.out.below hb1 HBL0.out.lt)
  have k0 : w1.cell? ⟨w.heap.size, 0, none⟩ = some (.int .i64 5) := HBL1.out.cell 0
  clear hb1 ht1 HLI
  simp only []
  have HSB := Lib.hid (show ∀ u ∈ l, allB u.tr = true from fun u hu => by
    have := ((allB_iff _).1 HALL.out).2
    rw [Ta.tr_subs] at this
    exact this _ (List.mem_map.2 ⟨u, hu, rfl⟩))
  have hsc := HN.out.1
  have hsc2 := HN.out.2.1
  go_wp2_with fail
  go_loopw [6, 11] (fun ov iv wr => ∃ (i b o c : Nat) (gs : List Nat) (f : Fn2), i ≤ l.length ∧ iv = .int .i64 (i : Int) ∧ ov = .slice (some ⟨b, o, none⟩) (n + 1) c ∧ Below w1.heap.size w1 wr ∧ Tab wr (w.heap.size + 1) b o (n + 1) gs f ∧ Rep (n + 1) f (LTa t (trs (l.take i)))) (fun _ iv _ => l.length - (intOf iv).toNat)
  case atStart => exact ⟨0, b, o, c1, gs, _, Nat.zero_le _, rfl, rfl, Below.refl _ _, HT1.out, fun i j hi hj => by rw [List.take_zero, trs, LTa]; simp⟩
  case round =>
    obtain ⟨i, b, o, c9, gs, f, hi, rfl, rfl, hb, ht, hf⟩ := hrel
    have HB := Lib.hid hb
    have HBW := Lib.hid (HB1.out.trans (hb.mono HB1.out.size))
    have HT := Lib.hid ht
    have HF := Lib.hid hf
    have HBLW := Lib.hid (HBL1.out.below hb HBL1.out.lt)
    have r3 : wr.cell? ⟨w.heap.size, 3, none⟩ = some (.slice sa l.length sc) := HBLW.out.cell 3
    clear hb ht hf
    by_cases hlt : i < l.length
    · have hlt2 : (i : Int) < (l.length : Int) := by omega
      obtain ⟨b0, off0, rfl, hSb0, _⟩ := HN.out.2.2.2.2 (by omega)
      obtain ⟨u, hu⟩ : ∃ u, l[i]? = some u := ⟨_, List.getElem?_eq_getElem hlt⟩
      have hum : u ∈ l := List.mem_of_getElem? hu
      have hbb := HS.out b0 hSb0
      have hcell : ∀ j, j < 9 → wr.cell? ⟨b0, off0 + i * 9 + j, none⟩ = u.vals[j]? := fun j hj => by
        rw [Nat.add_assoc, ← HN.out.node hu hj]
        exact HBW.out.cell (p := ⟨b0, off0 + (i * 9 + j), none⟩) hbb
      have hin := IH.out u hum S wr At n c t ((HL.out u hum).below HS.out HBW.out) (HSB.out u hum) (fun b hb => Nat.lt_of_lt_of_le (HS.out b hb) HBW.out.size) (HTX.out.go fun b hb => HBW.out.block b (HS.out b hb)) hn
      have HTK1 := Lib.hid (show trs (l.take (i + 1)) = trs (l.take i) ++ [u.tr] from by rw [List.take_add_one, hu, trs_map, trs_map, List.map_append]; rfl)
      cases u with
      | mk k' r' ra' rc' a' l' sa' sc' n' m' z' i' s' =>
      simp only [Ta.vals] at hcell
      simp only [Ta.val, Ta.vals] at hin
      have d0 := hcell 0 (by omega)
      have d1 := hcell 1 (by omega)
      have d2 := hcell 2 (by omega)
      have d3 := hcell 3 (by omega)
      have d4 := hcell 4 (by omega)
      have d5 := hcell 5 (by omega)
      have d6 := hcell 6 (by omega)
      have d7 := hcell 7 (by omega)
      have d8 := hcell 8 (by omega)
      simp only [List.getElem?_cons_zero, List.getElem?_cons_succ, Nat.add_zero] at d0 d1 d2 d3 d4 d5 d6 d7 d8
      have HIN := Lib.hid hin
      clear hin hcell hu hum
      go_wp2_with fail
      refine HIN.out.mono ?_
      rintro e w3 ⟨f3, ⟨b3, o3, c3, g3, rfl, hb3, ht3⟩, hf3⟩
      have HB3 := Lib.hid (HB.out.trans (hb3.mono HB.out.size))
      have HOP := Lib.hid (or_any (n := n + 1) (ca := c9) (cb := c3) w3 (by omega) (by omega) (HT.out.below hb3) ht3)
      have HF3 := Lib.hid hf3
      have HBL3 := Lib.hid (HBLW.out.below hb3 HBLW.out.lt)
      clear hb3 ht3 hf3 d0 d1 d2 d3 d4 d5 d6 d7 d8
      simp only []
      go_wp2_with fail
      refine HOP.out.mono ?_
      rintro e w4 ⟨b4, o4, c4, g4, rfl, hb4, ht4⟩
      have HB4 := Lib.hid (HB3.out.trans (hb4.mono HB3.out.size))
      have HT4 := Lib.hid (ht4.low (HBL3.out.lt))
      clear hb4 ht4
      simp only []
      go_wp2_with fail
      go_roundw
      case rel =>
        have hf := HF.out
        have hf3 := HF3.out
        exact ⟨i + 1, b4, o4, c4, g4, _, by omega, by go_num, rfl, HB4.out, HT4.out, (rep_or hf hf3).iff fun i j => by rw [HTK1.out, lta_append, LTa, LTa]; simp⟩
      case measure => simp [intOf]; omega
    · obtain rfl : i = l.length := by omega
      have hlt2 : ¬ ((l.length : Int) < (l.length : Int)) := by omega
      go_wp2_with fail
      go_ret
      have hf := HF.out
      rw [List.take_length] at hf
      have HLT := show ∀ i j, LT t (Ta.mk 5 r ra rc ast l sa sc mn mx z ix nm).tr i j ↔ LTa t (trs l) i j from fun i j => by rw [Ta.tr, LT]; simp
      exact ⟨_, ⟨b, o, c9, gs, rfl, HBW.out, HT.out.low (Nat.le_succ _)⟩, hf.iff fun i j => (HLT i j).symm⟩
end Go.Proofs.Ytjeljlgjkjeloaa
/- heronlaw06.table: repeats. -/
namespace Go.Proofs.Ytjeljlgjkjeloaa
open Go.RowKit Go.Proofs.Ytjeljlgjkjeloaa.Tr Go.Proofs.Ytjeljlgjkjeloaa.Mach

set_option maxRecDepth 100000 in
set_option maxHeartbeats 8000000 in
theorem tbl_rep (r : List (Int × Int)) (ra : Option Addr) (rc : Nat) (ast : Int) (l : List Ta) (sa : Option Addr) (sc : Nat) (mn mx : Int) (z : Bool) (ix : Int) (nm : ByteArray) (ih : ∀ u ∈ l, TableOk u) (S : Nat → Prop) (w : World) (At : Option Addr) (n c : Nat) (t : List Int) (h : RT w S (Ta.mk 6 r ra rc ast l sa sc mn mx z ix nm)) (hall : allB (Ta.mk 6 r ra rc ast l sa sc mn mx z ix nm).tr = true) (hS : ∀ b, S b → b < w.heap.size) (htx : RdA w S 1 At n c (t.map (Value.int .i64))) (hn : n ≤ 64) :
    Calls Try.prog 12 #[(Ta.mk 6 r ra rc ast l sa sc mn mx z ix nm).val, .slice At n c] w (TblRet n t (Ta.mk 6 r ra rc ast l sa sc mn mx z ix nm).tr w) := by
  have hb0 : Below w.heap.size w (w.alloc (.cells #[.int .i64 6, .slice ra r.length rc, .int .i64 ast, .slice sa l.length sc, .int .i64 mn, .int .i64 mx, .bool z, .int .i64 ix, .string nm] 28)) := (Below.refl _ _).alloc (Nat.le_refl _) _
  have HBL0 := Lib.hid (Blk.new w 28 [.int .i64 6, .slice ra r.length rc, .int .i64 ast, .slice sa l.length sc, .int .i64 mn, .int .i64 mx, .bool z, .int .i64 ix, .string nm])
  obtain ⟨⟨hR, hrl, hll, -⟩, hN, hL⟩ := h.parts
  have HB0 := Lib.hid hb0
  have HR := Lib.hid hR
  have IH := Lib.hid ih
  have HN := Lib.hid hN
  have HL := Lib.hid hL
  have HS := Lib.hid hS
  have HTX := Lib.hid htx
  have HALL := Lib.hid hall
  have htl : t.length = n := by have := htx.2.2.1; rw [List.length_map] at this; omega
  have HTL := Lib.hid htl
  have hnc := htx.1
  have hnc2 := htx.2.1
  have hwn : IntKind.i64.wrap ((n : Int) + 1) = (n : Int) + 1 := by rw [IntKind.wrap_i64]; omega
  have hec : ((n + 1 : Nat) : Int) = (n : Int) + 1 := by omega
  have hli := lines_any (n + 1) (w.alloc (.cells #[.int .i64 6, .slice ra r.length rc, .int .i64 ast, .slice sa l.length sc, .int .i64 mn, .int .i64 mx, .bool z, .int .i64 ix, .string nm] 28)) (by omega) (by omega)
  rw [hec] at hli
  have HLI := Lib.hid hli
  have HEC := Lib.hid hec
  clear ih h hall hS htx hb0 hli hec htl hR hN hL
  simp only [Ta.val, Ta.vals]
  go_enter Try.func12, Try.ntmps12
  go_wp2_with fail
  refine HLI.out.mono ?_
  rintro e w1 ⟨b, o, c1, gs, rfl, hb1, ht1⟩
  have hbs0 : (w.alloc (.cells #[.int .i64 6, .slice ra r.length rc, .int .i64 ast, .slice sa l.length sc, .int .i64 mn, .int .i64 mx, .bool z, .int .i64 ix, .string nm] 28)).heap.size = w.heap.size + 1 := by simp
  have HT1 := Lib.hid (show Tab w1 (w.heap.size + 1) b o (n + 1) gs _ from hbs0 ▸ ht1)
  have HB1 := Lib.hid (HB0.out.trans (hb1.mono HB0.out.size))
  have HBL1 := Lib.hid (HBL0.out.below hb1 HBL0.out.lt)
  have k0 : w1.cell? ⟨w.heap.size, 0, none⟩ = some (.int .i64 6) := HBL1.out.cell 0
  clear hb1 ht1 HLI
  simp only []
  have hnb : (trs l).length = 1 ∧ 0 ≤ mn ∧ mn ≤ 1000 ∧ (mx = -1 ∨ (mn ≤ mx ∧ mx ≤ 1000)) := by
    have := ((allB_iff _).1 HALL.out).1
    unfold Ta.tr nodeB at this
    dsimp only at this
    unfold nodeF at this
    simp only [reduceIte, Int.reduceEq, Bool.and_eq_true, Bool.or_eq_true, decide_eq_true_eq, beq_iff_eq] at this
    exact ⟨this.2.1, this.2.2.1, this.2.2.2.1, this.2.2.2.2⟩
  obtain ⟨hl1, hn0, hn1, hmx⟩ := hnb
  rw [trs_length] at hl1
  obtain ⟨m0, rfl⟩ : ∃ m0 : Nat, mn = (m0 : Int) := ⟨mn.toNat, by omega⟩
  obtain ⟨x, rfl⟩ := List.length_eq_one_iff.1 hl1
  have HM := Lib.hid (show m0 ≤ 1000 ∧ (mx = -1 ∨ ((m0 : Int) ≤ mx ∧ mx ≤ 1000)) from ⟨by omega, hmx⟩)
  have k5 : w1.cell? ⟨w.heap.size, 5, none⟩ = some (.int .i64 mx) := HBL1.out.cell 5
  have HSX := Lib.hid (show allB x.tr = true from by
    have := ((allB_iff _).1 HALL.out).2
    rw [Ta.tr_subs] at this
    exact this _ (List.mem_map.2 ⟨x, by simp [Ta.subs], rfl⟩))
  clear hn0 hn1 hmx hl1
  by_cases h0 : mx = 0
  · subst h0
    have hst := stays_any (n + 1) w1 (by omega) (by omega)
    rw [HEC.out] at hst
    have HST := Lib.hid hst
    clear hst
    go_wp2_with fail
    refine HST.out.mono ?_
    rintro e w2 ⟨b, o, c2, gs, rfl, hb2, ht2⟩
    have HB2 := Lib.hid (HB1.out.trans (hb2.mono HB1.out.size))
    have HT2 := Lib.hid (ht2.low (Nat.le_trans (Nat.le_succ _) HBL1.out.lt))
    clear hb2 ht2 HST k0 k5
    simp only []
    go_wp2_with fail
    go_ret
    refine ⟨_, ⟨b, o, c2, gs, rfl, HB2.out, HT2.out⟩, rep_id.iff fun i j => ?_⟩
    have hm := HM.out
    obtain rfl : m0 = 0 := by omega
    rw [Ta.tr, LT]
    simp only [Int.reduceEq, if_false, if_true]
    unfold reps
    rw [if_neg (by decide)]
    constructor
    · intro h; exact ⟨0, by simp, by simp, h⟩
    · rintro ⟨q, -, h2, h3⟩
      obtain rfl : q = 0 := by omega
      exact h3
  · have h0b : (mx == 0) = false := beq_eq_false_iff_ne.2 h0
    obtain ⟨b0, off0, rfl, hSb0, _⟩ := HN.out.2.2.2.2 (by simp)
    have hbb := HS.out b0 hSb0
    have hcell : ∀ j, j < 9 → w1.cell? ⟨b0, off0 + j, none⟩ = x.vals[j]? := fun j hj => by
      have := HN.out.node (j := 0) (t := x) rfl hj
      rw [Nat.zero_mul, Nat.zero_add] at this
      rw [← this]
      exact HB1.out.cell (p := ⟨b0, off0 + j, none⟩) hbb
    have hin := IH.out x (by simp) S w1.drew At n c t ((HL.out x (by simp)).below HS.out (bdrewN HB1.out 1)) HSX.out (fun b hb => Nat.lt_of_lt_of_le (HS.out b hb) HB1.out.size) (HTX.out.go fun b hb => HB1.out.block b (HS.out b hb)) hn
    obtain ⟨xt, hxt⟩ : ∃ xt, xt = x.tr := ⟨_, rfl⟩
    rw [← hxt] at hin
    have HXT := Lib.hid hxt
    cases x with
    | mk k' r' ra' rc' a' l' sa' sc' n' m' z' i' s' =>
    simp only [Ta.vals] at hcell
    simp only [Ta.val, Ta.vals] at hin
    simp only [List.length_cons, List.length_nil, Nat.zero_add] at HBL1 hin ⊢
    have HIN := Lib.hid hin
    have d0 := hcell 0 (by omega)
    have d1 := hcell 1 (by omega)
    have d2 := hcell 2 (by omega)
    have d3 := hcell 3 (by omega)
    have d4 := hcell 4 (by omega)
    have d5 := hcell 5 (by omega)
    have d6 := hcell 6 (by omega)
    have d7 := hcell 7 (by omega)
    have d8 := hcell 8 (by omega)
    simp only [List.getElem?_cons_zero, List.getElem?_cons_succ, Nat.add_zero] at d0 d1 d2 d3 d4 d5 d6 d7 d8
    have kA : w1.drew.cell? ⟨w.heap.size, 0, none⟩ = some (.int .i64 6) ∧ w1.drew.cell? ⟨w.heap.size, 1, none⟩ = some (.slice ra r.length rc) ∧ w1.drew.cell? ⟨w.heap.size, 2, none⟩ = some (.int .i64 ast) ∧ w1.drew.cell? ⟨w.heap.size, 3, none⟩ = some (.slice (some ⟨b0, off0, none⟩) 1 sc) ∧ w1.drew.cell? ⟨w.heap.size, 4, none⟩ = some (.int .i64 (m0 : Int)) ∧ w1.drew.cell? ⟨w.heap.size, 5, none⟩ = some (.int .i64 mx) ∧ w1.drew.cell? ⟨w.heap.size, 6, none⟩ = some (.bool z) ∧ w1.drew.cell? ⟨w.heap.size, 7, none⟩ = some (.int .i64 ix) ∧ w1.drew.cell? ⟨w.heap.size, 8, none⟩ = some (.string nm) ∧ w1.drew.cell? ⟨b0, off0, none⟩ = some (.int .i64 k') ∧ w1.drew.cell? ⟨b0, off0 + 1, none⟩ = some (.slice ra' r'.length rc') ∧ w1.drew.cell? ⟨b0, off0 + 2, none⟩ = some (.int .i64 a') ∧ w1.drew.cell? ⟨b0, off0 + 3, none⟩ = some (.slice sa' l'.length sc') ∧ w1.drew.cell? ⟨b0, off0 + 4, none⟩ = some (.int .i64 n') ∧ w1.drew.cell? ⟨b0, off0 + 5, none⟩ = some (.int .i64 m') ∧ w1.drew.cell? ⟨b0, off0 + 6, none⟩ = some (.bool z') ∧ w1.drew.cell? ⟨b0, off0 + 7, none⟩ = some (.int .i64 i') ∧ w1.drew.cell? ⟨b0, off0 + 8, none⟩ = some (.string s') := ⟨HBL1.out.cell 0, HBL1.out.cell 1, HBL1.out.cell 2, HBL1.out.cell 3, HBL1.out.cell 4, HBL1.out.cell 5, HBL1.out.cell 6, HBL1.out.cell 7, HBL1.out.cell 8, d0, d1, d2, d3, d4, d5, d6, d7, d8⟩
    clear hcell hin hxt d0 d1 d2 d3 d4 d5 d6 d7 d8
    go_wp2_with fail
    go_region_held_law (fun u => u.cell? ⟨w.heap.size, 0, none⟩ = some (.int .i64 6) ∧ u.cell? ⟨w.heap.size, 1, none⟩ = some (.slice ra r.length rc) ∧ u.cell? ⟨w.heap.size, 2, none⟩ = some (.int .i64 ast) ∧ u.cell? ⟨w.heap.size, 3, none⟩ = some (.slice (some ⟨b0, off0, none⟩) 1 sc) ∧ u.cell? ⟨w.heap.size, 4, none⟩ = some (.int .i64 (m0 : Int)) ∧ u.cell? ⟨w.heap.size, 5, none⟩ = some (.int .i64 mx) ∧ u.cell? ⟨w.heap.size, 6, none⟩ = some (.bool z) ∧ u.cell? ⟨w.heap.size, 7, none⟩ = some (.int .i64 ix) ∧ u.cell? ⟨w.heap.size, 8, none⟩ = some (.string nm) ∧ u.cell? ⟨b0, off0, none⟩ = some (.int .i64 k') ∧ u.cell? ⟨b0, off0 + 1, none⟩ = some (.slice ra' r'.length rc') ∧ u.cell? ⟨b0, off0 + 2, none⟩ = some (.int .i64 a') ∧ u.cell? ⟨b0, off0 + 3, none⟩ = some (.slice sa' l'.length sc') ∧ u.cell? ⟨b0, off0 + 4, none⟩ = some (.int .i64 n') ∧ u.cell? ⟨b0, off0 + 5, none⟩ = some (.int .i64 m') ∧ u.cell? ⟨b0, off0 + 6, none⟩ = some (.bool z') ∧ u.cell? ⟨b0, off0 + 7, none⟩ = some (.int .i64 i') ∧ u.cell? ⟨b0, off0 + 8, none⟩ = some (.string s')) (first | with_reducible exact kA | with_reducible exact kB | with_reducible exact kC) (first
      | (go_at_call 12; (with_reducible refine HIN.out.mono ?_); rintro e w3 ⟨f3, ⟨b3, o3, c3, g3, rfl, hb3, ht3⟩, hf3⟩; have HB3 := Lib.hid hb3; have HF3 := Lib.hid hf3; have htm := times6_any 6 r ra rc ast [Ta.mk k' r' ra' rc' a' l' sa' sc' n' m' z' i' s'] (some ⟨b0, off0, none⟩) sc m0 mx z ix nm (n := n + 1) (ca := c3) w3 (by omega) (by omega) ht3 HM.out.1 HM.out.2; simp only [List.length_cons, List.length_nil, Nat.zero_add] at htm; have HTM := Lib.hid htm; clear htm; have kB : w3.cell? ⟨w.heap.size, 0, none⟩ = some (.int .i64 6) ∧ w3.cell? ⟨w.heap.size, 1, none⟩ = some (.slice ra r.length rc) ∧ w3.cell? ⟨w.heap.size, 2, none⟩ = some (.int .i64 ast) ∧ w3.cell? ⟨w.heap.size, 3, none⟩ = some (.slice (some ⟨b0, off0, none⟩) 1 sc) ∧ w3.cell? ⟨w.heap.size, 4, none⟩ = some (.int .i64 (m0 : Int)) ∧ w3.cell? ⟨w.heap.size, 5, none⟩ = some (.int .i64 mx) ∧ w3.cell? ⟨w.heap.size, 6, none⟩ = some (.bool z) ∧ w3.cell? ⟨w.heap.size, 7, none⟩ = some (.int .i64 ix) ∧ w3.cell? ⟨w.heap.size, 8, none⟩ = some (.string nm) ∧ w3.cell? ⟨b0, off0, none⟩ = some (.int .i64 k') ∧ w3.cell? ⟨b0, off0 + 1, none⟩ = some (.slice ra' r'.length rc') ∧ w3.cell? ⟨b0, off0 + 2, none⟩ = some (.int .i64 a') ∧ w3.cell? ⟨b0, off0 + 3, none⟩ = some (.slice sa' l'.length sc') ∧ w3.cell? ⟨b0, off0 + 4, none⟩ = some (.int .i64 n') ∧ w3.cell? ⟨b0, off0 + 5, none⟩ = some (.int .i64 m') ∧ w3.cell? ⟨b0, off0 + 6, none⟩ = some (.bool z') ∧ w3.cell? ⟨b0, off0 + 7, none⟩ = some (.int .i64 i') ∧ w3.cell? ⟨b0, off0 + 8, none⟩ = some (.string s') := ⟨(hb3.cell (p := ⟨w.heap.size, 0, none⟩) (World.block_lt_of_cell? _ _ (kA.1))).trans (kA.1), (hb3.cell (p := ⟨w.heap.size, 1, none⟩) (World.block_lt_of_cell? _ _ (kA.2.1))).trans (kA.2.1), (hb3.cell (p := ⟨w.heap.size, 2, none⟩) (World.block_lt_of_cell? _ _ (kA.2.2.1))).trans (kA.2.2.1), (hb3.cell (p := ⟨w.heap.size, 3, none⟩) (World.block_lt_of_cell? _ _ (kA.2.2.2.1))).trans (kA.2.2.2.1), (hb3.cell (p := ⟨w.heap.size, 4, none⟩) (World.block_lt_of_cell? _ _ (kA.2.2.2.2.1))).trans (kA.2.2.2.2.1), (hb3.cell (p := ⟨w.heap.size, 5, none⟩) (World.block_lt_of_cell? _ _ (kA.2.2.2.2.2.1))).trans (kA.2.2.2.2.2.1), (hb3.cell (p := ⟨w.heap.size, 6, none⟩) (World.block_lt_of_cell? _ _ (kA.2.2.2.2.2.2.1))).trans (kA.2.2.2.2.2.2.1), (hb3.cell (p := ⟨w.heap.size, 7, none⟩) (World.block_lt_of_cell? _ _ (kA.2.2.2.2.2.2.2.1))).trans (kA.2.2.2.2.2.2.2.1), (hb3.cell (p := ⟨w.heap.size, 8, none⟩) (World.block_lt_of_cell? _ _ (kA.2.2.2.2.2.2.2.2.1))).trans (kA.2.2.2.2.2.2.2.2.1), (hb3.cell (p := ⟨b0, off0, none⟩) (World.block_lt_of_cell? _ _ (kA.2.2.2.2.2.2.2.2.2.1))).trans (kA.2.2.2.2.2.2.2.2.2.1), (hb3.cell (p := ⟨b0, off0 + 1, none⟩) (World.block_lt_of_cell? _ _ (kA.2.2.2.2.2.2.2.2.2.2.1))).trans (kA.2.2.2.2.2.2.2.2.2.2.1), (hb3.cell (p := ⟨b0, off0 + 2, none⟩) (World.block_lt_of_cell? _ _ (kA.2.2.2.2.2.2.2.2.2.2.2.1))).trans (kA.2.2.2.2.2.2.2.2.2.2.2.1), (hb3.cell (p := ⟨b0, off0 + 3, none⟩) (World.block_lt_of_cell? _ _ (kA.2.2.2.2.2.2.2.2.2.2.2.2.1))).trans (kA.2.2.2.2.2.2.2.2.2.2.2.2.1), (hb3.cell (p := ⟨b0, off0 + 4, none⟩) (World.block_lt_of_cell? _ _ (kA.2.2.2.2.2.2.2.2.2.2.2.2.2.1))).trans (kA.2.2.2.2.2.2.2.2.2.2.2.2.2.1), (hb3.cell (p := ⟨b0, off0 + 5, none⟩) (World.block_lt_of_cell? _ _ (kA.2.2.2.2.2.2.2.2.2.2.2.2.2.2.1))).trans (kA.2.2.2.2.2.2.2.2.2.2.2.2.2.2.1), (hb3.cell (p := ⟨b0, off0 + 6, none⟩) (World.block_lt_of_cell? _ _ (kA.2.2.2.2.2.2.2.2.2.2.2.2.2.2.2.1))).trans (kA.2.2.2.2.2.2.2.2.2.2.2.2.2.2.2.1), (hb3.cell (p := ⟨b0, off0 + 7, none⟩) (World.block_lt_of_cell? _ _ (kA.2.2.2.2.2.2.2.2.2.2.2.2.2.2.2.2.1))).trans (kA.2.2.2.2.2.2.2.2.2.2.2.2.2.2.2.2.1), (hb3.cell (p := ⟨b0, off0 + 8, none⟩) (World.block_lt_of_cell? _ _ (kA.2.2.2.2.2.2.2.2.2.2.2.2.2.2.2.2.2))).trans (kA.2.2.2.2.2.2.2.2.2.2.2.2.2.2.2.2.2)⟩; clear hb3 ht3 hf3; simp only [])
      | (go_at_call 38; (with_reducible refine HTM.out.mono ?_); rintro e w4 ⟨b4, o4, c4, g4, rfl, hb4, ht4⟩; have HB4 := Lib.hid hb4; have HT4 := Lib.hid ht4; have kC : w4.cell? ⟨w.heap.size, 0, none⟩ = some (.int .i64 6) ∧ w4.cell? ⟨w.heap.size, 1, none⟩ = some (.slice ra r.length rc) ∧ w4.cell? ⟨w.heap.size, 2, none⟩ = some (.int .i64 ast) ∧ w4.cell? ⟨w.heap.size, 3, none⟩ = some (.slice (some ⟨b0, off0, none⟩) 1 sc) ∧ w4.cell? ⟨w.heap.size, 4, none⟩ = some (.int .i64 (m0 : Int)) ∧ w4.cell? ⟨w.heap.size, 5, none⟩ = some (.int .i64 mx) ∧ w4.cell? ⟨w.heap.size, 6, none⟩ = some (.bool z) ∧ w4.cell? ⟨w.heap.size, 7, none⟩ = some (.int .i64 ix) ∧ w4.cell? ⟨w.heap.size, 8, none⟩ = some (.string nm) ∧ w4.cell? ⟨b0, off0, none⟩ = some (.int .i64 k') ∧ w4.cell? ⟨b0, off0 + 1, none⟩ = some (.slice ra' r'.length rc') ∧ w4.cell? ⟨b0, off0 + 2, none⟩ = some (.int .i64 a') ∧ w4.cell? ⟨b0, off0 + 3, none⟩ = some (.slice sa' l'.length sc') ∧ w4.cell? ⟨b0, off0 + 4, none⟩ = some (.int .i64 n') ∧ w4.cell? ⟨b0, off0 + 5, none⟩ = some (.int .i64 m') ∧ w4.cell? ⟨b0, off0 + 6, none⟩ = some (.bool z') ∧ w4.cell? ⟨b0, off0 + 7, none⟩ = some (.int .i64 i') ∧ w4.cell? ⟨b0, off0 + 8, none⟩ = some (.string s') := ⟨(hb4.cell (p := ⟨w.heap.size, 0, none⟩) (World.block_lt_of_cell? _ _ (kB.1))).trans (kB.1), (hb4.cell (p := ⟨w.heap.size, 1, none⟩) (World.block_lt_of_cell? _ _ (kB.2.1))).trans (kB.2.1), (hb4.cell (p := ⟨w.heap.size, 2, none⟩) (World.block_lt_of_cell? _ _ (kB.2.2.1))).trans (kB.2.2.1), (hb4.cell (p := ⟨w.heap.size, 3, none⟩) (World.block_lt_of_cell? _ _ (kB.2.2.2.1))).trans (kB.2.2.2.1), (hb4.cell (p := ⟨w.heap.size, 4, none⟩) (World.block_lt_of_cell? _ _ (kB.2.2.2.2.1))).trans (kB.2.2.2.2.1), (hb4.cell (p := ⟨w.heap.size, 5, none⟩) (World.block_lt_of_cell? _ _ (kB.2.2.2.2.2.1))).trans (kB.2.2.2.2.2.1), (hb4.cell (p := ⟨w.heap.size, 6, none⟩) (World.block_lt_of_cell? _ _ (kB.2.2.2.2.2.2.1))).trans (kB.2.2.2.2.2.2.1), (hb4.cell (p := ⟨w.heap.size, 7, none⟩) (World.block_lt_of_cell? _ _ (kB.2.2.2.2.2.2.2.1))).trans (kB.2.2.2.2.2.2.2.1), (hb4.cell (p := ⟨w.heap.size, 8, none⟩) (World.block_lt_of_cell? _ _ (kB.2.2.2.2.2.2.2.2.1))).trans (kB.2.2.2.2.2.2.2.2.1), (hb4.cell (p := ⟨b0, off0, none⟩) (World.block_lt_of_cell? _ _ (kB.2.2.2.2.2.2.2.2.2.1))).trans (kB.2.2.2.2.2.2.2.2.2.1), (hb4.cell (p := ⟨b0, off0 + 1, none⟩) (World.block_lt_of_cell? _ _ (kB.2.2.2.2.2.2.2.2.2.2.1))).trans (kB.2.2.2.2.2.2.2.2.2.2.1), (hb4.cell (p := ⟨b0, off0 + 2, none⟩) (World.block_lt_of_cell? _ _ (kB.2.2.2.2.2.2.2.2.2.2.2.1))).trans (kB.2.2.2.2.2.2.2.2.2.2.2.1), (hb4.cell (p := ⟨b0, off0 + 3, none⟩) (World.block_lt_of_cell? _ _ (kB.2.2.2.2.2.2.2.2.2.2.2.2.1))).trans (kB.2.2.2.2.2.2.2.2.2.2.2.2.1), (hb4.cell (p := ⟨b0, off0 + 4, none⟩) (World.block_lt_of_cell? _ _ (kB.2.2.2.2.2.2.2.2.2.2.2.2.2.1))).trans (kB.2.2.2.2.2.2.2.2.2.2.2.2.2.1), (hb4.cell (p := ⟨b0, off0 + 5, none⟩) (World.block_lt_of_cell? _ _ (kB.2.2.2.2.2.2.2.2.2.2.2.2.2.2.1))).trans (kB.2.2.2.2.2.2.2.2.2.2.2.2.2.2.1), (hb4.cell (p := ⟨b0, off0 + 6, none⟩) (World.block_lt_of_cell? _ _ (kB.2.2.2.2.2.2.2.2.2.2.2.2.2.2.2.1))).trans (kB.2.2.2.2.2.2.2.2.2.2.2.2.2.2.2.1), (hb4.cell (p := ⟨b0, off0 + 7, none⟩) (World.block_lt_of_cell? _ _ (kB.2.2.2.2.2.2.2.2.2.2.2.2.2.2.2.2.1))).trans (kB.2.2.2.2.2.2.2.2.2.2.2.2.2.2.2.2.1), (hb4.cell (p := ⟨b0, off0 + 8, none⟩) (World.block_lt_of_cell? _ _ (kB.2.2.2.2.2.2.2.2.2.2.2.2.2.2.2.2.2))).trans (kB.2.2.2.2.2.2.2.2.2.2.2.2.2.2.2.2.2)⟩; clear hb4 ht4; simp only []))
    all_goals
      go_wp2_with fail
      go_ret
      have s1 := HB1.out.size
      have s3 := HB3.out.size
      refine ⟨_, ⟨b4, o4, c4, g4, rfl, ((bdrewN HB1.out 1).trans (HB3.out.mono s1)).trans (HB4.out.mono (Nat.le_trans s1 s3)), HT4.out.low (Nat.le_trans s1 s3)⟩, (rep_times HF3.out (HTL.out ▸ bdd_lt xt) (HM.out.2.imp id fun h => h.1)).iff fun i j => ?_⟩
      rw [Ta.tr, trs, trs, ← HXT.out, LT]
      simp only [Int.reduceEq, if_false, if_true]
      exact reps_congr fun i j => by rw [LTh]
end Go.Proofs.Ytjeljlgjkjeloaa
/- heronlaw06.table: classes. -/
namespace Go.Proofs.Ytjeljlgjkjeloaa
open Go.RowKit Go.Proofs.Ytjeljlgjkjeloaa.Tr Go.Proofs.Ytjeljlgjkjeloaa.Mach

def curC (t : List Int) (r : List (Int × Int)) (i q : Nat) : Fn2 := fun a x => (decide (a < i) && (decide (x = a + 1) && memB r (t.getD a 0))) || (decide (a = i ∧ x = a + 1) && memB (r.take q) (t.getD a 0))
theorem flatC_get : ∀ (l : List (Int × Int)) (q : Nat) (p : Int × Int), l[q]? = some p → (flat l)[q * 2]? = some (.int .i64 p.1) ∧ (flat l)[q * 2 + 1]? = some (.int .i64 p.2)
  | [], q, p, h => by simp at h
  | x :: l, 0, p, h => by simp at h; subst h; exact ⟨rfl, rfl⟩
  | x :: l, q + 1, p, h => by
    have := flatC_get l q p (by simpa using h)
    have e1 : (q + 1) * 2 = q * 2 + 1 + 1 := by omega
    rw [e1]
    exact this
set_option maxRecDepth 100000 in
set_option maxHeartbeats 8000000 in
theorem tbl_cls (r : List (Int × Int)) (ra : Option Addr) (rc : Nat) (ast : Int) (l : List Ta) (sa : Option Addr) (sc : Nat) (mn mx : Int) (z : Bool) (ix : Int) (nm : ByteArray) (S : Nat → Prop) (w : World) (At : Option Addr) (n c : Nat) (t : List Int) (h : RT w S (Ta.mk 2 r ra rc ast l sa sc mn mx z ix nm)) (hall : allB (Ta.mk 2 r ra rc ast l sa sc mn mx z ix nm).tr = true) (hS : ∀ b, S b → b < w.heap.size) (htx : RdA w S 1 At n c (t.map (Value.int .i64))) (hn : n ≤ 64) :
    Calls Try.prog 12 #[(Ta.mk 2 r ra rc ast l sa sc mn mx z ix nm).val, .slice At n c] w (TblRet n t (Ta.mk 2 r ra rc ast l sa sc mn mx z ix nm).tr w) := by
  have hb0 : Below w.heap.size w (w.alloc (.cells #[.int .i64 2, .slice ra r.length rc, .int .i64 ast, .slice sa l.length sc, .int .i64 mn, .int .i64 mx, .bool z, .int .i64 ix, .string nm] 28)) := (Below.refl _ _).alloc (Nat.le_refl _) _
  have HBL0 := Lib.hid (Blk.new w 28 [.int .i64 2, .slice ra r.length rc, .int .i64 ast, .slice sa l.length sc, .int .i64 mn, .int .i64 mx, .bool z, .int .i64 ix, .string nm])
  obtain ⟨⟨hR, hrl, hll, -⟩, hN, hL⟩ := h.parts
  have HB0 := Lib.hid hb0
  have HR := Lib.hid hR
  have HN := Lib.hid hN
  have HL := Lib.hid hL
  have HS := Lib.hid hS
  have HTX := Lib.hid htx
  have HALL := Lib.hid hall
  have htl : t.length = n := by have := htx.2.2.1; rw [List.length_map] at this; omega
  have HTL := Lib.hid htl
  have hnc := htx.1
  have hnc2 := htx.2.1
  have hwn : IntKind.i64.wrap ((n : Int) + 1) = (n : Int) + 1 := by rw [IntKind.wrap_i64]; omega
  have hec : ((n + 1 : Nat) : Int) = (n : Int) + 1 := by omega
  have hli := lines_any (n + 1) (w.alloc (.cells #[.int .i64 2, .slice ra r.length rc, .int .i64 ast, .slice sa l.length sc, .int .i64 mn, .int .i64 mx, .bool z, .int .i64 ix, .string nm] 28)) (by omega) (by omega)
  rw [hec] at hli
  have HLI := Lib.hid hli
  have HEC := Lib.hid hec
  clear h hall hS htx hb0 hli hec htl hR hN hL
  simp only [Ta.val, Ta.vals]
  go_enter Try.func12, Try.ntmps12
  go_wp2_with fail
  refine HLI.out.mono ?_
  rintro e w1 ⟨b, o, c1, gs, rfl, hb1, ht1⟩
  have hbs0 : (w.alloc (.cells #[.int .i64 2, .slice ra r.length rc, .int .i64 ast, .slice sa l.length sc, .int .i64 mn, .int .i64 mx, .bool z, .int .i64 ix, .string nm] 28)).heap.size = w.heap.size + 1 := by simp
  have HT1 := Lib.hid (show Tab w1 (w.heap.size + 1) b o (n + 1) gs _ from hbs0 ▸ ht1)
  have HB1 := Lib.hid (HB0.out.trans (hb1.mono HB0.out.size))
  have HBL1 := Lib.hid (HBL0.out.below hb1 HBL0.out.lt)
  have k0 : w1.cell? ⟨w.heap.size, 0, none⟩ = some (.int .i64 2) := HBL1.out.cell 0
  clear hb1 ht1 HLI
  simp only []
  go_wp2_with fail
  go_loopw [7] (fun iv wr => ∃ i : Nat, i ≤ n ∧ iv = .int .i64 (i : Int) ∧ Below w.heap.size w wr ∧ Blk wr w.heap.size 28 [.int .i64 2, .slice ra r.length rc, .int .i64 ast, .slice sa l.length sc, .int .i64 mn, .int .i64 mx, .bool z, .int .i64 ix, .string nm] ∧ Tab wr (w.heap.size + 1) b o (n + 1) gs (curC t r i 0)) (fun iv _ => n - (intOf iv).toNat)
  case atStart => exact ⟨0, Nat.zero_le _, rfl, HB1.out, HBL1.out, HT1.out.congr fun i k _ _ => by simp [curC, memB]⟩
  case round =>
    obtain ⟨i, hi, rfl, hb, hbl, ht⟩ := hrel
    have HBI := Lib.hid hb
    have HBLI := Lib.hid hbl
    have HTI := Lib.hid ht
    clear hb hbl ht
    by_cases hlt : i < n
    · have hlt2 : (i : Int) < (n : Int) := by omega
      go_wp2_with fail
      go_loopw [8] (fun kv wr => ∃ q : Nat, q ≤ r.length ∧ kv = .int .i64 (q : Int) ∧ Below w.heap.size w wr ∧ Blk wr w.heap.size 28 [.int .i64 2, .slice ra r.length rc, .int .i64 ast, .slice sa l.length sc, .int .i64 mn, .int .i64 mx, .bool z, .int .i64 ix, .string nm] ∧ Tab wr (w.heap.size + 1) b o (n + 1) gs (curC t r i q)) (fun kv _ => r.length - (intOf kv).toNat)
      case atStart => exact ⟨0, Nat.zero_le _, rfl, HBI.out, HBLI.out, HTI.out⟩
      case round =>
        obtain ⟨q, hq, rfl, hb, hbl, ht⟩ := hrel
        have HB := Lib.hid hb
        have HBL := Lib.hid hbl
        have HT := Lib.hid ht
        have r1 : wr.cell? ⟨w.heap.size, 1, none⟩ = some (.slice ra r.length rc) := hbl.cell 1
        clear hb hbl ht
        by_cases hlq : q < r.length
        · have hlq2 : (q : Int) < (r.length : Int) := by omega
          obtain ⟨g, hg, hc, hg1, hg2, hck, hfz⟩ := HT.out.at_ (show i < n + 1 by omega)
          have x5 := hck (i + 1) (by omega)
          have x6 := hfz (i + 1)
          have HG := Lib.hid hg
          have hsz := HB.out.size
          obtain ⟨rb, ro, hre, hSb, hrc⟩ := HR.out.2.2.2.2 (show 0 < r.length by omega)
          obtain ⟨tb, to_, hte, hSt, htc⟩ := HTX.out.2.2.2.2 (show 0 < n by omega)
          subst hre hte
          obtain ⟨p, hp⟩ : ∃ p, r[q]? = some p := ⟨_, List.getElem?_eq_getElem hlq⟩
          have htq : t[i]? = some (t.getD i 0) := by
            have hti : i < t.length := by rw [HTL.out]; exact hlt
            rw [List.getElem?_eq_getElem hti, List.getD_eq_getElem?_getD, List.getElem?_eq_getElem hti]; rfl
          have y1 : wr.cell? ⟨rb, ro + q * 2, none⟩ = some (.int .i64 p.1) := (HB.out.cell (p := ⟨rb, ro + q * 2, none⟩) (HS.out rb hSb)).trans (hrc (q * 2) _ (flatC_get r q p hp).1)
          have y2 : wr.cell? ⟨rb, ro + q * 2 + 1, none⟩ = some (.int .i64 p.2) := (HB.out.cell (p := ⟨rb, ro + q * 2 + 1, none⟩) (HS.out rb hSb)).trans (hrc (q * 2 + 1) _ (flatC_get r q p hp).2)
          have y3 : wr.cell? ⟨tb, to_ + i, none⟩ = some (.int .i64 (t.getD i 0)) := (HB.out.cell (p := ⟨tb, to_ + i, none⟩) (HS.out tb hSt)).trans (htc i _ (by rw [List.getElem?_map, htq]; rfl))
          have HMB := Lib.hid (show memB (r.take (q + 1)) (t.getD i 0) = (memB (r.take q) (t.getD i 0) || decide (p.1 ≤ t.getD i 0 ∧ t.getD i 0 ≤ p.2)) from by
            unfold memB
            rw [List.take_add_one, hp, List.any_append]
            simp)
          have hcur : curC t r i q i (i + 1) = memB (r.take q) (t.getD i 0) := by simp [curC]
          rw [hcur] at x5
          have hwi : IntKind.i64.wrap ((i : Int) + 1) = ((i + 1 : Nat) : Int) := by rw [IntKind.wrap_i64]; omega
          have hii : (i : Int) + 1 < (n : Int) + 1 := by omega
          have HREL := Lib.hid (show ∀ wq v, wq = (wr.setCell ⟨g, i + 1, none⟩ (.bool v)).drew → v = memB (r.take (q + 1)) (t.getD i 0) → Below w.heap.size w wq ∧ Blk wq w.heap.size 28 [.int .i64 2, .slice (some ⟨rb, ro, none⟩) r.length rc, .int .i64 ast, .slice sa l.length sc, .int .i64 mn, .int .i64 mx, .bool z, .int .i64 ix, .string nm] ∧ Tab wq (w.heap.size + 1) b o (n + 1) gs (curC t r i (q + 1)) from fun wq v hq hv => by
            subst hq
            refine ⟨bdrewN (Below.kept HB.out (Kept.setCell _ _) (by simp; omega) HB.out.size) 1, (HBL.out.far (p := ⟨g, i + 1, none⟩) (by simp; omega) _).drew, ((HT.out.set_ HG.out v).congr fun a x ha hx => ?_ : Tab (wr.setCell ⟨g, i + 1, none⟩ (.bool v)) (w.heap.size + 1) b o (n + 1) gs _).below (bdrewN (Below.refl _ _) 1)⟩
            unfold upd curC
            by_cases e : a = i ∧ x = i + 1
            · rw [if_pos e]; obtain ⟨rfl, rfl⟩ := e; rw [hv]; simp
            · rw [if_neg e]
              have : decide (a = i ∧ x = a + 1) = false := decide_eq_false (by omega)
              rw [this]; simp)
          generalize hvc : memB (r.take q) (t.getD i 0) = vc at *
          generalize hnew : memB (r.take (q + 1)) (t.getD i 0) = vn at *
          generalize t.getD i 0 = v at *
          generalize p.1 = lo at *
          generalize p.2 = hi' at *
          clear hck hfz hg hrc htc hp htq hcur hvc hnew
          cases vc with
          | true =>
            go_wp2_with fail
            go_region
            go_wp2_with fail
            go_roundw
            case rel => exact ⟨q + 1, by omega, by go_num, HREL.out _ true rfl (by rw [HMB.out]; rfl)⟩
            case measure => simp [intOf]; omega
          | false =>
            by_cases hlo : lo ≤ v
            · go_wp2_with fail
              go_region
              go_wp2_with fail
              go_roundw
              case rel => exact ⟨q + 1, by omega, by go_num, HREL.out _ (decide (v ≤ hi')) rfl (by rw [HMB.out]; simp [hlo])⟩
              case measure => simp [intOf]; omega
            · have hlb : decide (lo ≤ v) = false := decide_eq_false hlo
              have HLO := Lib.hid hlo
              clear hlo
              go_wp2_with fail
              go_region
              go_wp2_with fail
              go_roundw
              case rel => exact ⟨q + 1, by omega, by go_num, HREL.out _ false rfl (by rw [HMB.out, show decide (lo ≤ v ∧ v ≤ hi') = false from decide_eq_false fun h => by have := HLO.out; omega]; rfl)⟩
              case measure => simp [intOf]; omega
        · obtain rfl : q = r.length := by omega
          have hlq2 : ¬ ((r.length : Int) < (r.length : Int)) := by omega
          go_wp2_with fail
          go_roundw
          case rel =>
            refine ⟨i + 1, by omega, by go_num, HB.out, HBL.out, HT.out.congr fun a x ha hx => ?_⟩
            unfold curC
            rw [List.take_length]
            have hm0 : memB (r.take 0) (t.getD a 0) = false := by simp [memB]
            rw [hm0]
            by_cases e : a = i
            · subst e; simp
            · have hd : decide (a < i) = decide (a < i + 1) := by rw [decide_eq_decide]; omega
              simp [e, hd]
          case measure => simp [intOf]; omega
    · obtain rfl : i = n := by omega
      have hlt2 : ¬ ((i : Int) < (i : Int)) := by omega
      go_wp2_with fail
      go_ret
      have HLT := show ∀ i j, LT t (Ta.mk 2 r ra rc ast l sa sc mn mx z ix nm).tr i j ↔ i < t.length ∧ memB r (t.getD i 0) = true ∧ j = i + 1 from fun i j => by rw [Ta.tr, LT]; simp
      refine ⟨_, ⟨b, o, c1, gs, rfl, HBI.out, HTI.out.low (Nat.le_succ _)⟩, fun x y hx hy => ?_⟩
      rw [HLT, HTL.out]
      unfold curC
      simp only [Bool.or_eq_true, Bool.and_eq_true, decide_eq_true_eq, List.take_zero]
      constructor
      · rintro (⟨h1, h2, h3⟩ | ⟨-, h3⟩)
        · exact ⟨h1, h3, h2⟩
        · simp [memB] at h3
      · rintro ⟨h1, h3, h2⟩
        exact .inl ⟨h1, h2, h3⟩
theorem table_any : ∀ u : Ta, TableOk u := by
  intro u
  induction u using Ta.ind with
  | h u ih =>
    intro S w At n c t h hall hS htx hn
    cases u with
    | mk k r ra rc ast l sa sc mn mx z ix nm =>
    have ih' : ∀ u ∈ l, TableOk u := fun u hu => ih u hu
    have hk : k = 1 ∨ k = 2 ∨ k = 3 ∨ k = 4 ∨ k = 5 ∨ k = 6 ∨ k = 7 := by
      have := ((allB_iff _).1 hall).1
      unfold Ta.tr nodeB at this
      dsimp only at this
      unfold nodeF at this
      repeat' split at this
      all_goals first | (cases this; done) | omega
    rcases hk with rfl | rfl | rfl | rfl | rfl | rfl | rfl
    · exact tbl_empty r ra rc ast l sa sc mn mx z ix nm S w At n c t h hall hS htx hn
    · exact tbl_cls r ra rc ast l sa sc mn mx z ix nm S w At n c t h hall hS htx hn
    · exact tbl_ass r ra rc ast l sa sc mn mx z ix nm S w At n c t h hall hS htx hn
    · exact tbl_cat r ra rc ast l sa sc mn mx z ix nm ih' S w At n c t h hall hS htx hn
    · exact tbl_alt r ra rc ast l sa sc mn mx z ix nm ih' S w At n c t h hall hS htx hn
    · exact tbl_rep r ra rc ast l sa sc mn mx z ix nm ih' S w At n c t h hall hS htx hn
    · exact tbl_grp r ra rc ast l sa sc mn mx z ix nm ih' S w At n c t h hall hS htx hn
end Go.Proofs.Ytjeljlgjkjeloaa
