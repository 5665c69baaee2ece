/- The law SimplifyRests. -/
import Derived.Test.YtajpkgbgfneacaaQAwake
import Derived.Test.YtajpkgbgfneacaaQNodes
import Derived.Test.YtajpkgbgfneacaaQLawSimple
namespace Go.Proofs.Ytajpkgbgfneacaa
open Go.RowKit Go.Proofs.Ytajpkgbgfneacaa.Tr

/-- What Simplify and Size give of a tree. -/
theorem ways (t : Tr.Tr) : (errV t = 50 ∧ sizeV t = 0 ∧ formV t = zT.tr) ∨ (errV t = 3 ∧ 0 < sizeV t ∧ formV t = zT.tr) ∨
    (errV t = 0 ∧ simpB (formV t) 0 = true ∧ soundB (formV t) = true ∧ formV (formV t) = formV t ∧ errV (formV t) = 0 ∧ sizeV (formV t) = sizeV t ∧ sizeV t = ((size (formV t) : Nat) : Int) ∧ sizeV t ≤ 200000 ∧ allB t = true ∧ formV t = simpleS t) := by
  cases hb : soundB t with
  | false => exact .inl ⟨by unfold errV; rw [hb]; rfl, by unfold sizeV; rw [hb]; rfl, by unfold formV; rw [hb]; rfl⟩
  | true =>
    have hal : allB t = true := by unfold soundB at hb; simp only [Bool.and_eq_true] at hb; exact hb.1.1
    have hsv : sizeV t = (reckonS t).size := by unfold sizeV; rw [hb]; rfl
    cases hf : fitsB t with
    | false => exact .inr (.inl ⟨by unfold errV; rw [hb, hf]; rfl, by rw [hsv]; exact reckon_pos hal, by unfold formV; rw [hb, hf]; rfl⟩)
    | true =>
      have hf2 := hf
      unfold fitsB at hf2
      rw [Bool.and_eq_true, decide_eq_true_eq, decide_eq_true_eq] at hf2
      obtain ⟨h1, h2⟩ := fits_sound hal hf2.1 hf2.2
      have e1 : formV t = simpleS t := by unfold formV; rw [hb, hf]; rfl
      have e2 : reckonS (simpleS t) = reckonS t := reckon_twice hal
      have e3 : fitsB (simpleS t) = true := by unfold fitsB at hf ⊢; rw [e2]; exact hf
      refine .inr (.inr ⟨by unfold errV; rw [hb, hf]; rfl, ?_, ?_, ?_, ?_, ?_, ?_, ?_, hal, e1⟩)
      · rw [e1]; exact (simple_good t hal).2
      · rw [e1]; exact h1
      · rw [e1]; unfold formV; rw [h1, e3, simple_twice hal]; rfl
      · rw [e1]; unfold errV; rw [h1, e3]; rfl
      · rw [e1, hsv]; unfold sizeV; rw [h1, e2]; rfl
      · rw [e1, hsv]; exact h2
      · rw [hsv]; exact hf2.1
set_option maxRecDepth 100000 in
set_option maxHeartbeats 4000000 in
theorem rests_any (t : Ta) (S : Nat → Prop) (w : World) (h : RT w S t) (hS : ∀ b, S b → b < w.heap.size) :
    Calls Try.prog 3 #[t.val] w fun e w' => e = .returned (.bool true) ∧ Below w.heap.size w w' := by
  cases t with
  | mk k r ra rc ast l sa sc mn mx z ix nm =>
  have hb0 : Below w.heap.size w (w.alloc (.cells #[.int .i64 k, .slice ra r.length rc, .int .i64 ast, .slice sa l.length sc, .int .i64 mn, .int .i64 mx, .bool z, .int .i64 ix, .string nm] 25)) := (Below.refl _ _).alloc (Nat.le_refl _) _
  have HX := Lib.hid (Blk.new w 25 [.int .i64 k, .slice ra r.length rc, .int .i64 ast, .slice sa l.length sc, .int .i64 mn, .int .i64 mx, .bool z, .int .i64 ix, .string nm])
  have HT := Lib.hid (h.below hS hb0)
  have HB := Lib.hid hb0
  have HSS := Lib.hid hS
  obtain ⟨ev, hev⟩ : ∃ q, q = errV (Ta.mk k r ra rc ast l sa sc mn mx z ix nm).tr := ⟨_, rfl⟩
  obtain ⟨sn, hsn⟩ : ∃ q, q = sizeV (Ta.mk k r ra rc ast l sa sc mn mx z ix nm).tr := ⟨_, rfl⟩
  obtain ⟨fs, hfs⟩ : ∃ q, q = formV (Ta.mk k r ra rc ast l sa sc mn mx z ix nm).tr := ⟨_, rfl⟩
  have hw := ways (Ta.mk k r ra rc ast l sa sc mn mx z ix nm).tr
  rw [← hev, ← hsn, ← hfs] at hw
  have HW := Lib.hid hw
  have HSI := Lib.hid (show ∀ u, RT u S (Ta.mk k r ra rc ast l sa sc mn mx z ix nm) → (∀ b, S b → b < u.heap.size) → Calls Try.prog 8 #[(Ta.mk k r ra rc ast l sa sc mn mx z ix nm).val] u fun e w' => ∃ v : Ta, e = .returned (.tuple #[v.val, .int .i64 ev]) ∧ v.tr = fs ∧ RT w' (Fr u.heap.size [] w') v ∧ Below u.heap.size u w' from fun u h1 h2 => by rw [hev, hfs]; exact simplify_any (Ta.mk k r ra rc ast l sa sc mn mx z ix nm) S u h1 h2)
  have HSZ := Lib.hid (show ∀ u, RT u S (Ta.mk k r ra rc ast l sa sc mn mx z ix nm) → (∀ b, S b → b < u.heap.size) → Calls Try.prog 9 #[(Ta.mk k r ra rc ast l sa sc mn mx z ix nm).val] u fun e w' => e = .returned (.int .i64 sn) ∧ Below u.heap.size u w' from fun u h1 h2 => by rw [hsn]; exact size_any (Ta.mk k r ra rc ast l sa sc mn mx z ix nm) S u h1 h2)
  clear h hS hb0 hw hev hsn hfs
  simp only [Ta.val, Ta.vals]
  go_enter Try.func3, Try.ntmps3
  go_wp2_with fail
  generalize (w.alloc (.cells #[.int .i64 k, .slice ra r.length rc, .int .i64 ast, .slice sa l.length sc, .int .i64 mn, .int .i64 mx, .bool z, .int .i64 ix, .string nm] 25)) = w0 at *
  refine (deep_any (Ta.mk k r ra rc ast l sa sc mn mx z ix nm) S w0 HT.out (fun b hb => Nat.lt_of_lt_of_le (HSS.out b hb) HB.out.size)).mono ?_
  rintro e w1 ⟨rfl, hb⟩
  have HX := Lib.hid (HX.out.below hb HX.out.lt)
  have HT := Lib.hid (HT.out.below HSS.out (hb.mono HB.out.size))
  have HB := Lib.hid (HB.out.trans (hb.mono HB.out.size))
  clear hb
  obtain ⟨dp, hdp⟩ : ∃ q, q = decide (4194304 < size (Ta.mk k r ra rc ast l sa sc mn mx z ix nm).tr) := ⟨_, rfl⟩
  rw [← hdp]
  clear hdp
  simp only []
  cases dp with
  | true =>
    go_wp2_with fail
    go_ret
    exact ⟨rfl, HB.out⟩
  | false =>
    have t0 : w1.cell? ⟨w.heap.size, 0, none⟩ = some (.int .i64 k) := HX.out.cell 0
    have t1 : w1.cell? ⟨w.heap.size, 1, none⟩ = some (.slice ra r.length rc) := HX.out.cell 1
    have t2 : w1.cell? ⟨w.heap.size, 2, none⟩ = some (.int .i64 ast) := HX.out.cell 2
    have t3 : w1.cell? ⟨w.heap.size, 3, none⟩ = some (.slice sa l.length sc) := HX.out.cell 3
    have t4 : w1.cell? ⟨w.heap.size, 4, none⟩ = some (.int .i64 mn) := HX.out.cell 4
    have t5 : w1.cell? ⟨w.heap.size, 5, none⟩ = some (.int .i64 mx) := HX.out.cell 5
    have t6 : w1.cell? ⟨w.heap.size, 6, none⟩ = some (.bool z) := HX.out.cell 6
    have t7 : w1.cell? ⟨w.heap.size, 7, none⟩ = some (.int .i64 ix) := HX.out.cell 7
    have t8 : w1.cell? ⟨w.heap.size, 8, none⟩ = some (.string nm) := HX.out.cell 8
    go_wp2_with fail
    refine (heavy_any (Ta.mk k r ra rc ast l sa sc mn mx z ix nm) S w1 HT.out (fun b hb => Nat.lt_of_lt_of_le (HSS.out b hb) HB.out.size)).mono ?_
    rintro e w2 ⟨⟨hv, rfl⟩, hb⟩
    clear t0 t1 t2 t3 t4 t5 t6 t7 t8
    have HX := Lib.hid (HX.out.below hb HX.out.lt)
    have HT := Lib.hid (HT.out.below HSS.out (hb.mono HB.out.size))
    have HB := Lib.hid (HB.out.trans (hb.mono HB.out.size))
    clear hb
    simp only []
    cases hv with
    | true =>
      go_wp2_with fail
      go_ret
      exact ⟨rfl, HB.out⟩
    | false =>
      go_wp2_with fail
      refine (awake_any w2).mono ?_
      rintro e w3 ⟨rfl, hb⟩
      have HX := Lib.hid (HX.out.below hb HX.out.lt)
      have HT := Lib.hid (HT.out.below HSS.out (hb.mono HB.out.size))
      have HB := Lib.hid (HB.out.trans (hb.mono HB.out.size))
      clear hb
      have t0 : w3.cell? ⟨w.heap.size, 0, none⟩ = some (.int .i64 k) := HX.out.cell 0
      have t1 : w3.cell? ⟨w.heap.size, 1, none⟩ = some (.slice ra r.length rc) := HX.out.cell 1
      have t2 : w3.cell? ⟨w.heap.size, 2, none⟩ = some (.int .i64 ast) := HX.out.cell 2
      have t3 : w3.cell? ⟨w.heap.size, 3, none⟩ = some (.slice sa l.length sc) := HX.out.cell 3
      have t4 : w3.cell? ⟨w.heap.size, 4, none⟩ = some (.int .i64 mn) := HX.out.cell 4
      have t5 : w3.cell? ⟨w.heap.size, 5, none⟩ = some (.int .i64 mx) := HX.out.cell 5
      have t6 : w3.cell? ⟨w.heap.size, 6, none⟩ = some (.bool z) := HX.out.cell 6
      have t7 : w3.cell? ⟨w.heap.size, 7, none⟩ = some (.int .i64 ix) := HX.out.cell 7
      have t8 : w3.cell? ⟨w.heap.size, 8, none⟩ = some (.string nm) := HX.out.cell 8
      simp only []
      go_wp2_with fail
      refine (HSI.out w3 HT.out (fun b hb => Nat.lt_of_lt_of_le (HSS.out b hb) HB.out.size)).mono ?_
      rintro e w4 ⟨s, rfl, htr, hrt, hb⟩
      clear t0 t1 t2 t3 t4 t5 t6 t7 t8
      have HS := Lib.hid (hrt.fr_low HB.out.size)
      have HTR := Lib.hid htr
      clear htr hrt
      have HX := Lib.hid (HX.out.below hb HX.out.lt)
      have HT := Lib.hid (HT.out.below HSS.out (hb.mono HB.out.size))
      have HB := Lib.hid (HB.out.trans (hb.mono HB.out.size))
      clear hb
      obtain ⟨ks, rs, ras, rcs, as_, ls, sas, scs, ns, ms, zs, is_, nms⟩ := s
      have hb : Below w4.heap.size w4 (w4.alloc (.cells #[.int .i64 ks, .slice ras rs.length rcs, .int .i64 as_, .slice sas ls.length scs, .int .i64 ns, .int .i64 ms, .bool zs, .int .i64 is_, .string nms] 25)) := (Below.refl _ _).alloc (Nat.le_refl _) _
      have HY := Lib.hid (Blk.new w4 25 [.int .i64 ks, .slice ras rs.length rcs, .int .i64 as_, .slice sas ls.length scs, .int .i64 ns, .int .i64 ms, .bool zs, .int .i64 is_, .string nms])
      have HX := Lib.hid (HX.out.below hb HX.out.lt)
      have HT := Lib.hid (HT.out.below HSS.out (hb.mono HB.out.size))
      have HS := Lib.hid (HS.out.fr_below hb)
      have HB := Lib.hid (HB.out.trans (hb.mono HB.out.size))
      clear hb
      have t0 : (w4.alloc (.cells #[.int .i64 ks, .slice ras rs.length rcs, .int .i64 as_, .slice sas ls.length scs, .int .i64 ns, .int .i64 ms, .bool zs, .int .i64 is_, .string nms] 25)).cell? ⟨w.heap.size, 0, none⟩ = some (.int .i64 k) := HX.out.cell 0
      have t1 : (w4.alloc (.cells #[.int .i64 ks, .slice ras rs.length rcs, .int .i64 as_, .slice sas ls.length scs, .int .i64 ns, .int .i64 ms, .bool zs, .int .i64 is_, .string nms] 25)).cell? ⟨w.heap.size, 1, none⟩ = some (.slice ra r.length rc) := HX.out.cell 1
      have t2 : (w4.alloc (.cells #[.int .i64 ks, .slice ras rs.length rcs, .int .i64 as_, .slice sas ls.length scs, .int .i64 ns, .int .i64 ms, .bool zs, .int .i64 is_, .string nms] 25)).cell? ⟨w.heap.size, 2, none⟩ = some (.int .i64 ast) := HX.out.cell 2
      have t3 : (w4.alloc (.cells #[.int .i64 ks, .slice ras rs.length rcs, .int .i64 as_, .slice sas ls.length scs, .int .i64 ns, .int .i64 ms, .bool zs, .int .i64 is_, .string nms] 25)).cell? ⟨w.heap.size, 3, none⟩ = some (.slice sa l.length sc) := HX.out.cell 3
      have t4 : (w4.alloc (.cells #[.int .i64 ks, .slice ras rs.length rcs, .int .i64 as_, .slice sas ls.length scs, .int .i64 ns, .int .i64 ms, .bool zs, .int .i64 is_, .string nms] 25)).cell? ⟨w.heap.size, 4, none⟩ = some (.int .i64 mn) := HX.out.cell 4
      have t5 : (w4.alloc (.cells #[.int .i64 ks, .slice ras rs.length rcs, .int .i64 as_, .slice sas ls.length scs, .int .i64 ns, .int .i64 ms, .bool zs, .int .i64 is_, .string nms] 25)).cell? ⟨w.heap.size, 5, none⟩ = some (.int .i64 mx) := HX.out.cell 5
      have t6 : (w4.alloc (.cells #[.int .i64 ks, .slice ras rs.length rcs, .int .i64 as_, .slice sas ls.length scs, .int .i64 ns, .int .i64 ms, .bool zs, .int .i64 is_, .string nms] 25)).cell? ⟨w.heap.size, 6, none⟩ = some (.bool z) := HX.out.cell 6
      have t7 : (w4.alloc (.cells #[.int .i64 ks, .slice ras rs.length rcs, .int .i64 as_, .slice sas ls.length scs, .int .i64 ns, .int .i64 ms, .bool zs, .int .i64 is_, .string nms] 25)).cell? ⟨w.heap.size, 7, none⟩ = some (.int .i64 ix) := HX.out.cell 7
      have t8 : (w4.alloc (.cells #[.int .i64 ks, .slice ras rs.length rcs, .int .i64 as_, .slice sas ls.length scs, .int .i64 ns, .int .i64 ms, .bool zs, .int .i64 is_, .string nms] 25)).cell? ⟨w.heap.size, 8, none⟩ = some (.string nm) := HX.out.cell 8
      simp only [Ta.val, Ta.vals]
      go_wp2_with fail
      generalize w4.alloc (.cells #[.int .i64 ks, .slice ras rs.length rcs, .int .i64 as_, .slice sas ls.length scs, .int .i64 ns, .int .i64 ms, .bool zs, .int .i64 is_, .string nms] 25) = w5 at *
      generalize w4.heap.size = sb at *
      refine (HSZ.out w5 HT.out (fun b hb => Nat.lt_of_lt_of_le (HSS.out b hb) HB.out.size)).mono ?_
      rintro e w6 ⟨rfl, hb⟩
      clear t0 t1 t2 t3 t4 t5 t6 t7 t8
      have HX := Lib.hid (HX.out.below hb HX.out.lt)
      have HY := Lib.hid (HY.out.below hb HY.out.lt)
      have HS := Lib.hid (HS.out.fr_below hb)
      have HB := Lib.hid (HB.out.trans (hb.mono HB.out.size))
      clear hb
      clear HT HSS HX
      rcases HW.out with ⟨rfl, rfl, hfz⟩ | ⟨rfl, hpos, hfz⟩ | ⟨rfl, hsi, hso, hff, hef, hzf, hsz, hle, -, -⟩
      · clear HW HSI HSZ
        simp only []
        have y0 : w6.cell? ⟨sb, 0, none⟩ = some (.int .i64 ks) := HY.out.cell 0
        have y1 : w6.cell? ⟨sb, 1, none⟩ = some (.slice ras rs.length rcs) := HY.out.cell 1
        have y2 : w6.cell? ⟨sb, 2, none⟩ = some (.int .i64 as_) := HY.out.cell 2
        have y3 : w6.cell? ⟨sb, 3, none⟩ = some (.slice sas ls.length scs) := HY.out.cell 3
        have y4 : w6.cell? ⟨sb, 4, none⟩ = some (.int .i64 ns) := HY.out.cell 4
        have y5 : w6.cell? ⟨sb, 5, none⟩ = some (.int .i64 ms) := HY.out.cell 5
        have y6 : w6.cell? ⟨sb, 6, none⟩ = some (.bool zs) := HY.out.cell 6
        have y7 : w6.cell? ⟨sb, 7, none⟩ = some (.int .i64 is_) := HY.out.cell 7
        have y8 : w6.cell? ⟨sb, 8, none⟩ = some (.string nms) := HY.out.cell 8
        go_wp2_with fail
        refine (same_any (Ta.mk ks rs ras rcs as_ ls sas scs ns ms zs is_ nms) zT (Fr w.heap.size [] w6) w6 HS.out (RT.of ⟨RdA.none_, by simp, by simp, by decide⟩ RdA.none_ (by simp)) (fun b hb => hb.2.1) (HTR.out.trans hfz)).mono ?_
        rintro e w7 ⟨rfl, hb⟩
        have HB := Lib.hid (HB.out.trans (hb.mono HB.out.size))
        clear hb
        simp only []
        go_wp2_with fail
        go_ret
        exact ⟨rfl, HB.out⟩
      · clear HW HSI HSZ
        simp only []
        have y0 : w6.cell? ⟨sb, 0, none⟩ = some (.int .i64 ks) := HY.out.cell 0
        have y1 : w6.cell? ⟨sb, 1, none⟩ = some (.slice ras rs.length rcs) := HY.out.cell 1
        have y2 : w6.cell? ⟨sb, 2, none⟩ = some (.int .i64 as_) := HY.out.cell 2
        have y3 : w6.cell? ⟨sb, 3, none⟩ = some (.slice sas ls.length scs) := HY.out.cell 3
        have y4 : w6.cell? ⟨sb, 4, none⟩ = some (.int .i64 ns) := HY.out.cell 4
        have y5 : w6.cell? ⟨sb, 5, none⟩ = some (.int .i64 ms) := HY.out.cell 5
        have y6 : w6.cell? ⟨sb, 6, none⟩ = some (.bool zs) := HY.out.cell 6
        have y7 : w6.cell? ⟨sb, 7, none⟩ = some (.int .i64 is_) := HY.out.cell 7
        have y8 : w6.cell? ⟨sb, 8, none⟩ = some (.string nms) := HY.out.cell 8
        go_wp2_with fail
        refine (same_any (Ta.mk ks rs ras rcs as_ ls sas scs ns ms zs is_ nms) zT (Fr w.heap.size [] w6) w6 HS.out (RT.of ⟨RdA.none_, by simp, by simp, by decide⟩ RdA.none_ (by simp)) (fun b hb => hb.2.1) (HTR.out.trans hfz)).mono ?_
        rintro e w7 ⟨rfl, hb⟩
        have HB := Lib.hid (HB.out.trans (hb.mono HB.out.size))
        clear hb
        simp only []
        go_wp2_with fail
        go_ret
        exact ⟨rfl, HB.out⟩
      · clear HW HSI HSZ
        simp only []
        have y0 : w6.cell? ⟨sb, 0, none⟩ = some (.int .i64 ks) := HY.out.cell 0
        have y1 : w6.cell? ⟨sb, 1, none⟩ = some (.slice ras rs.length rcs) := HY.out.cell 1
        have y2 : w6.cell? ⟨sb, 2, none⟩ = some (.int .i64 as_) := HY.out.cell 2
        have y3 : w6.cell? ⟨sb, 3, none⟩ = some (.slice sas ls.length scs) := HY.out.cell 3
        have y4 : w6.cell? ⟨sb, 4, none⟩ = some (.int .i64 ns) := HY.out.cell 4
        have y5 : w6.cell? ⟨sb, 5, none⟩ = some (.int .i64 ms) := HY.out.cell 5
        have y6 : w6.cell? ⟨sb, 6, none⟩ = some (.bool zs) := HY.out.cell 6
        have y7 : w6.cell? ⟨sb, 7, none⟩ = some (.int .i64 is_) := HY.out.cell 7
        have y8 : w6.cell? ⟨sb, 8, none⟩ = some (.string nms) := HY.out.cell 8
        go_wp2_with fail
        refine (nodes_any (Ta.mk ks rs ras rcs as_ ls sas scs ns ms zs is_ nms) (Fr w.heap.size [] w6) w6 HS.out (fun b hb => hb.2.1) (by rw [HTR.out]; omega)).mono ?_
        rintro e w7 ⟨rfl, hb⟩
        rw [HTR.out, ← hsz]
        clear y0 y1 y2 y3 y4 y5 y6 y7 y8
        have HY := Lib.hid (HY.out.below hb HY.out.lt)
        have HS := Lib.hid (HS.out.fr_below hb)
        have HB := Lib.hid (HB.out.trans (hb.mono HB.out.size))
        clear hb
        have y0 : w7.cell? ⟨sb, 0, none⟩ = some (.int .i64 ks) := HY.out.cell 0
        have y1 : w7.cell? ⟨sb, 1, none⟩ = some (.slice ras rs.length rcs) := HY.out.cell 1
        have y2 : w7.cell? ⟨sb, 2, none⟩ = some (.int .i64 as_) := HY.out.cell 2
        have y3 : w7.cell? ⟨sb, 3, none⟩ = some (.slice sas ls.length scs) := HY.out.cell 3
        have y4 : w7.cell? ⟨sb, 4, none⟩ = some (.int .i64 ns) := HY.out.cell 4
        have y5 : w7.cell? ⟨sb, 5, none⟩ = some (.int .i64 ms) := HY.out.cell 5
        have y6 : w7.cell? ⟨sb, 6, none⟩ = some (.bool zs) := HY.out.cell 6
        have y7 : w7.cell? ⟨sb, 7, none⟩ = some (.int .i64 is_) := HY.out.cell 7
        have y8 : w7.cell? ⟨sb, 8, none⟩ = some (.string nms) := HY.out.cell 8
        simp only []
        go_wp2_with fail
        refine (lawSimple_any (Ta.mk ks rs ras rcs as_ ls sas scs ns ms zs is_ nms) (Fr w.heap.size [] w7) w7 0 HS.out (fun b hb => hb.2.1) (by rw [HTR.out]; exact hsi)).mono ?_
        rintro e w8 ⟨rfl, hb⟩
        clear y0 y1 y2 y3 y4 y5 y6 y7 y8
        have HY := Lib.hid (HY.out.below hb HY.out.lt)
        have HS := Lib.hid (HS.out.fr_below hb)
        have HB := Lib.hid (HB.out.trans (hb.mono HB.out.size))
        clear hb
        have y0 : w8.cell? ⟨sb, 0, none⟩ = some (.int .i64 ks) := HY.out.cell 0
        have y1 : w8.cell? ⟨sb, 1, none⟩ = some (.slice ras rs.length rcs) := HY.out.cell 1
        have y2 : w8.cell? ⟨sb, 2, none⟩ = some (.int .i64 as_) := HY.out.cell 2
        have y3 : w8.cell? ⟨sb, 3, none⟩ = some (.slice sas ls.length scs) := HY.out.cell 3
        have y4 : w8.cell? ⟨sb, 4, none⟩ = some (.int .i64 ns) := HY.out.cell 4
        have y5 : w8.cell? ⟨sb, 5, none⟩ = some (.int .i64 ms) := HY.out.cell 5
        have y6 : w8.cell? ⟨sb, 6, none⟩ = some (.bool zs) := HY.out.cell 6
        have y7 : w8.cell? ⟨sb, 7, none⟩ = some (.int .i64 is_) := HY.out.cell 7
        have y8 : w8.cell? ⟨sb, 8, none⟩ = some (.string nms) := HY.out.cell 8
        simp only []
        go_wp2_with fail
        have hSo := rSound_any (Ta.mk ks rs ras rcs as_ ls sas scs ns ms zs is_ nms) (Fr w.heap.size [] w8) w8 HS.out (fun b hb => hb.2.1)
        rw [HTR.out, show sv fs = .int .i64 0 from by unfold sv; rw [hso]; rfl] at hSo
        refine hSo.mono ?_
        rintro e w9 ⟨rfl, hb⟩
        clear hSo
        clear y0 y1 y2 y3 y4 y5 y6 y7 y8
        have HY := Lib.hid (HY.out.below hb HY.out.lt)
        have HS := Lib.hid (HS.out.fr_below hb)
        have HB := Lib.hid (HB.out.trans (hb.mono HB.out.size))
        clear hb
        have y0 : w9.cell? ⟨sb, 0, none⟩ = some (.int .i64 ks) := HY.out.cell 0
        have y1 : w9.cell? ⟨sb, 1, none⟩ = some (.slice ras rs.length rcs) := HY.out.cell 1
        have y2 : w9.cell? ⟨sb, 2, none⟩ = some (.int .i64 as_) := HY.out.cell 2
        have y3 : w9.cell? ⟨sb, 3, none⟩ = some (.slice sas ls.length scs) := HY.out.cell 3
        have y4 : w9.cell? ⟨sb, 4, none⟩ = some (.int .i64 ns) := HY.out.cell 4
        have y5 : w9.cell? ⟨sb, 5, none⟩ = some (.int .i64 ms) := HY.out.cell 5
        have y6 : w9.cell? ⟨sb, 6, none⟩ = some (.bool zs) := HY.out.cell 6
        have y7 : w9.cell? ⟨sb, 7, none⟩ = some (.int .i64 is_) := HY.out.cell 7
        have y8 : w9.cell? ⟨sb, 8, none⟩ = some (.string nms) := HY.out.cell 8
        simp only []
        go_wp2_with fail
        have hSi := simplify_any (Ta.mk ks rs ras rcs as_ ls sas scs ns ms zs is_ nms) (Fr w.heap.size [] w9) w9 HS.out (fun b hb => hb.2.1)
        rw [HTR.out, hef, hff] at hSi
        refine hSi.mono ?_
        rintro e w10 ⟨u, rfl, htu, hru, hb⟩
        have HU := Lib.hid (hru.fr_low HB.out.size)
        have HTU := Lib.hid htu
        clear hSi htu hru
        clear y0 y1 y2 y3 y4 y5 y6 y7 y8
        have HY := Lib.hid (HY.out.below hb HY.out.lt)
        have HS := Lib.hid (HS.out.fr_below hb)
        have HB := Lib.hid (HB.out.trans (hb.mono HB.out.size))
        clear hb
        obtain ⟨ku, ru, rau, rcu, au, lu, sau, scu, nu, mu, zu, iu, nmu⟩ := u
        have hb : Below w10.heap.size w10 (w10.alloc (.cells #[.int .i64 ku, .slice rau ru.length rcu, .int .i64 au, .slice sau lu.length scu, .int .i64 nu, .int .i64 mu, .bool zu, .int .i64 iu, .string nmu] 25)) := (Below.refl _ _).alloc (Nat.le_refl _) _
        have HV := Lib.hid (Blk.new w10 25 [.int .i64 ku, .slice rau ru.length rcu, .int .i64 au, .slice sau lu.length scu, .int .i64 nu, .int .i64 mu, .bool zu, .int .i64 iu, .string nmu])
        have HY := Lib.hid (HY.out.below hb HY.out.lt)
        have HS := Lib.hid (HS.out.fr_below hb)
        have HU := Lib.hid (HU.out.fr_below hb)
        have HB := Lib.hid (HB.out.trans (hb.mono HB.out.size))
        clear hb
        have y0 : (w10.alloc (.cells #[.int .i64 ku, .slice rau ru.length rcu, .int .i64 au, .slice sau lu.length scu, .int .i64 nu, .int .i64 mu, .bool zu, .int .i64 iu, .string nmu] 25)).cell? ⟨sb, 0, none⟩ = some (.int .i64 ks) := HY.out.cell 0
        have y1 : (w10.alloc (.cells #[.int .i64 ku, .slice rau ru.length rcu, .int .i64 au, .slice sau lu.length scu, .int .i64 nu, .int .i64 mu, .bool zu, .int .i64 iu, .string nmu] 25)).cell? ⟨sb, 1, none⟩ = some (.slice ras rs.length rcs) := HY.out.cell 1
        have y2 : (w10.alloc (.cells #[.int .i64 ku, .slice rau ru.length rcu, .int .i64 au, .slice sau lu.length scu, .int .i64 nu, .int .i64 mu, .bool zu, .int .i64 iu, .string nmu] 25)).cell? ⟨sb, 2, none⟩ = some (.int .i64 as_) := HY.out.cell 2
        have y3 : (w10.alloc (.cells #[.int .i64 ku, .slice rau ru.length rcu, .int .i64 au, .slice sau lu.length scu, .int .i64 nu, .int .i64 mu, .bool zu, .int .i64 iu, .string nmu] 25)).cell? ⟨sb, 3, none⟩ = some (.slice sas ls.length scs) := HY.out.cell 3
        have y4 : (w10.alloc (.cells #[.int .i64 ku, .slice rau ru.length rcu, .int .i64 au, .slice sau lu.length scu, .int .i64 nu, .int .i64 mu, .bool zu, .int .i64 iu, .string nmu] 25)).cell? ⟨sb, 4, none⟩ = some (.int .i64 ns) := HY.out.cell 4
        have y5 : (w10.alloc (.cells #[.int .i64 ku, .slice rau ru.length rcu, .int .i64 au, .slice sau lu.length scu, .int .i64 nu, .int .i64 mu, .bool zu, .int .i64 iu, .string nmu] 25)).cell? ⟨sb, 5, none⟩ = some (.int .i64 ms) := HY.out.cell 5
        have y6 : (w10.alloc (.cells #[.int .i64 ku, .slice rau ru.length rcu, .int .i64 au, .slice sau lu.length scu, .int .i64 nu, .int .i64 mu, .bool zu, .int .i64 iu, .string nmu] 25)).cell? ⟨sb, 6, none⟩ = some (.bool zs) := HY.out.cell 6
        have y7 : (w10.alloc (.cells #[.int .i64 ku, .slice rau ru.length rcu, .int .i64 au, .slice sau lu.length scu, .int .i64 nu, .int .i64 mu, .bool zu, .int .i64 iu, .string nmu] 25)).cell? ⟨sb, 7, none⟩ = some (.int .i64 is_) := HY.out.cell 7
        have y8 : (w10.alloc (.cells #[.int .i64 ku, .slice rau ru.length rcu, .int .i64 au, .slice sau lu.length scu, .int .i64 nu, .int .i64 mu, .bool zu, .int .i64 iu, .string nmu] 25)).cell? ⟨sb, 8, none⟩ = some (.string nms) := HY.out.cell 8
        simp only [Ta.val, Ta.vals]
        go_wp2_with fail
        generalize w10.alloc (.cells #[.int .i64 ku, .slice rau ru.length rcu, .int .i64 au, .slice sau lu.length scu, .int .i64 nu, .int .i64 mu, .bool zu, .int .i64 iu, .string nmu] 25) = w11 at *
        generalize w10.heap.size = ub at *
        have hSz := size_any (Ta.mk ks rs ras rcs as_ ls sas scs ns ms zs is_ nms) (Fr w.heap.size [] w11) w11 HS.out (fun b hb => hb.2.1)
        rw [HTR.out, hzf] at hSz
        refine hSz.mono ?_
        rintro e w12 ⟨rfl, hb⟩
        clear hSz
        clear y0 y1 y2 y3 y4 y5 y6 y7 y8
        have HY := Lib.hid (HY.out.below hb HY.out.lt)
        have HV := Lib.hid (HV.out.below hb HV.out.lt)
        have HS := Lib.hid (HS.out.fr_below hb)
        have HU := Lib.hid (HU.out.fr_below hb)
        have HB := Lib.hid (HB.out.trans (hb.mono HB.out.size))
        clear hb
        have y0 : w12.cell? ⟨sb, 0, none⟩ = some (.int .i64 ks) := HY.out.cell 0
        have y1 : w12.cell? ⟨sb, 1, none⟩ = some (.slice ras rs.length rcs) := HY.out.cell 1
        have y2 : w12.cell? ⟨sb, 2, none⟩ = some (.int .i64 as_) := HY.out.cell 2
        have y3 : w12.cell? ⟨sb, 3, none⟩ = some (.slice sas ls.length scs) := HY.out.cell 3
        have y4 : w12.cell? ⟨sb, 4, none⟩ = some (.int .i64 ns) := HY.out.cell 4
        have y5 : w12.cell? ⟨sb, 5, none⟩ = some (.int .i64 ms) := HY.out.cell 5
        have y6 : w12.cell? ⟨sb, 6, none⟩ = some (.bool zs) := HY.out.cell 6
        have y7 : w12.cell? ⟨sb, 7, none⟩ = some (.int .i64 is_) := HY.out.cell 7
        have y8 : w12.cell? ⟨sb, 8, none⟩ = some (.string nms) := HY.out.cell 8
        have v0 : w12.cell? ⟨ub, 0, none⟩ = some (.int .i64 ku) := HV.out.cell 0
        have v1 : w12.cell? ⟨ub, 1, none⟩ = some (.slice rau ru.length rcu) := HV.out.cell 1
        have v2 : w12.cell? ⟨ub, 2, none⟩ = some (.int .i64 au) := HV.out.cell 2
        have v3 : w12.cell? ⟨ub, 3, none⟩ = some (.slice sau lu.length scu) := HV.out.cell 3
        have v4 : w12.cell? ⟨ub, 4, none⟩ = some (.int .i64 nu) := HV.out.cell 4
        have v5 : w12.cell? ⟨ub, 5, none⟩ = some (.int .i64 mu) := HV.out.cell 5
        have v6 : w12.cell? ⟨ub, 6, none⟩ = some (.bool zu) := HV.out.cell 6
        have v7 : w12.cell? ⟨ub, 7, none⟩ = some (.int .i64 iu) := HV.out.cell 7
        have v8 : w12.cell? ⟨ub, 8, none⟩ = some (.string nmu) := HV.out.cell 8
        simp only []
        go_wp2_with fail
        refine (same_any (Ta.mk ku ru rau rcu au lu sau scu nu mu zu iu nmu) (Ta.mk ks rs ras rcs as_ ls sas scs ns ms zs is_ nms) (Fr w.heap.size [] w12) w12 HU.out HS.out (fun b hb => hb.2.1) (HTU.out.trans HTR.out.symm)).mono ?_
        rintro e w13 ⟨rfl, hb⟩
        have HB := Lib.hid (HB.out.trans (hb.mono HB.out.size))
        clear hb
        simp only []
        go_wp2_with fail
        go_ret
        exact ⟨ret_bool (decide_eq_true (by rw [← hsz]; exact hle)), HB.out⟩
end Go.Proofs.Ytajpkgbgfneacaa
