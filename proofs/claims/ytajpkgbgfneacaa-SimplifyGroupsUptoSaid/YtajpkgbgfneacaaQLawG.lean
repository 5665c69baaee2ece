/- The law SimplifyGroups. -/
import Derived.Test.YtajpkgbgfneacaaQRests
import Derived.Test.YtajpkgbgfneacaaQGroups
namespace Go.Proofs.Ytajpkgbgfneacaa
open Go.RowKit Go.Proofs.Ytajpkgbgfneacaa.Tr

set_option maxRecDepth 100000 in
set_option maxHeartbeats 4000000 in
theorem lawGroups_any (t : Ta) (S : Nat → Prop) (w : World) (h : RT w S t) (hS : ∀ b, S b → b < w.heap.size) :
    Calls Try.prog 4 #[t.val] w fun e w' => e = .returned (.bool true) ∧ Below w.heap.size w w' := by
  cases t with
  | mk k r ra rc ast l sa sc mn mx z ix nm =>
  have hb0 : Below w.heap.size w (w.alloc (.cells #[.int .i64 k, .slice ra r.length rc, .int .i64 ast, .slice sa l.length sc, .int .i64 mn, .int .i64 mx, .bool z, .int .i64 ix, .string nm] 25)) := (Below.refl _ _).alloc (Nat.le_refl _) _
  have HX := Lib.hid (Blk.new w 25 [.int .i64 k, .slice ra r.length rc, .int .i64 ast, .slice sa l.length sc, .int .i64 mn, .int .i64 mx, .bool z, .int .i64 ix, .string nm])
  have HT := Lib.hid (h.below hS hb0)
  have HB := Lib.hid hb0
  have HSS := Lib.hid hS
  obtain ⟨ev, hev⟩ : ∃ q, q = errV (Ta.mk k r ra rc ast l sa sc mn mx z ix nm).tr := ⟨_, rfl⟩
  obtain ⟨sn, hsn⟩ : ∃ q, q = sizeV (Ta.mk k r ra rc ast l sa sc mn mx z ix nm).tr := ⟨_, rfl⟩
  obtain ⟨fs, hfs⟩ : ∃ q, q = formV (Ta.mk k r ra rc ast l sa sc mn mx z ix nm).tr := ⟨_, rfl⟩
  have hw := ways (Ta.mk k r ra rc ast l sa sc mn mx z ix nm).tr
  rw [← hev, ← hsn, ← hfs] at hw
  have HW := Lib.hid hw
  have HSI := Lib.hid (show ∀ u, RT u S (Ta.mk k r ra rc ast l sa sc mn mx z ix nm) → (∀ b, S b → b < u.heap.size) → Calls Try.prog 8 #[(Ta.mk k r ra rc ast l sa sc mn mx z ix nm).val] u fun e w' => ∃ v : Ta, e = .returned (.tuple #[v.val, .int .i64 ev]) ∧ v.tr = fs ∧ RT w' (Fr u.heap.size [] w') v ∧ Below u.heap.size u w' from fun u h1 h2 => by rw [hev, hfs]; exact simplify_any (Ta.mk k r ra rc ast l sa sc mn mx z ix nm) S u h1 h2)
  have HSZ := Lib.hid (show ∀ u, RT u S (Ta.mk k r ra rc ast l sa sc mn mx z ix nm) → (∀ b, S b → b < u.heap.size) → Calls Try.prog 9 #[(Ta.mk k r ra rc ast l sa sc mn mx z ix nm).val] u fun e w' => e = .returned (.int .i64 sn) ∧ Below u.heap.size u w' from fun u h1 h2 => by rw [hsn]; exact size_any (Ta.mk k r ra rc ast l sa sc mn mx z ix nm) S u h1 h2)
  clear h hS hb0 hw hev hsn hfs
  simp only [Ta.val, Ta.vals]
  go_enter Try.func4, Try.ntmps4
  go_wp2_with fail
  generalize (w.alloc (.cells #[.int .i64 k, .slice ra r.length rc, .int .i64 ast, .slice sa l.length sc, .int .i64 mn, .int .i64 mx, .bool z, .int .i64 ix, .string nm] 25)) = w0 at *
  refine (deep_any (Ta.mk k r ra rc ast l sa sc mn mx z ix nm) S w0 HT.out (fun b hb => Nat.lt_of_lt_of_le (HSS.out b hb) HB.out.size)).mono ?_
  rintro e w1 ⟨rfl, hb⟩
  have HX := Lib.hid (HX.out.below hb HX.out.lt)
  have HT := Lib.hid (HT.out.below HSS.out (hb.mono HB.out.size))
  have HB := Lib.hid (HB.out.trans (hb.mono HB.out.size))
  clear hb
  obtain ⟨dp, hdp⟩ : ∃ q, q = decide (4194304 < size (Ta.mk k r ra rc ast l sa sc mn mx z ix nm).tr) := ⟨_, rfl⟩
  rw [← hdp]
  have HDP := Lib.hid hdp
  clear hdp
  simp only []
  cases dp with
  | true =>
    go_wp2_with fail
    go_ret
    exact ⟨rfl, HB.out⟩
  | false =>
    have t0 : w1.cell? ⟨w.heap.size, 0, none⟩ = some (.int .i64 k) := HX.out.cell 0
    have t1 : w1.cell? ⟨w.heap.size, 1, none⟩ = some (.slice ra r.length rc) := HX.out.cell 1
    have t2 : w1.cell? ⟨w.heap.size, 2, none⟩ = some (.int .i64 ast) := HX.out.cell 2
    have t3 : w1.cell? ⟨w.heap.size, 3, none⟩ = some (.slice sa l.length sc) := HX.out.cell 3
    have t4 : w1.cell? ⟨w.heap.size, 4, none⟩ = some (.int .i64 mn) := HX.out.cell 4
    have t5 : w1.cell? ⟨w.heap.size, 5, none⟩ = some (.int .i64 mx) := HX.out.cell 5
    have t6 : w1.cell? ⟨w.heap.size, 6, none⟩ = some (.bool z) := HX.out.cell 6
    have t7 : w1.cell? ⟨w.heap.size, 7, none⟩ = some (.int .i64 ix) := HX.out.cell 7
    have t8 : w1.cell? ⟨w.heap.size, 8, none⟩ = some (.string nm) := HX.out.cell 8
    go_wp2_with fail
    refine (heavy_any (Ta.mk k r ra rc ast l sa sc mn mx z ix nm) S w1 HT.out (fun b hb => Nat.lt_of_lt_of_le (HSS.out b hb) HB.out.size)).mono ?_
    rintro e w2 ⟨⟨hv, rfl⟩, hb⟩
    clear t0 t1 t2 t3 t4 t5 t6 t7 t8
    have HX := Lib.hid (HX.out.below hb HX.out.lt)
    have HT := Lib.hid (HT.out.below HSS.out (hb.mono HB.out.size))
    have HB := Lib.hid (HB.out.trans (hb.mono HB.out.size))
    clear hb
    simp only []
    cases hv with
    | true =>
      go_wp2_with fail
      go_ret
      exact ⟨rfl, HB.out⟩
    | false =>
      go_wp2_with fail
      refine (awake_any w2).mono ?_
      rintro e w3 ⟨rfl, hb⟩
      have HX := Lib.hid (HX.out.below hb HX.out.lt)
      have HT := Lib.hid (HT.out.below HSS.out (hb.mono HB.out.size))
      have HB := Lib.hid (HB.out.trans (hb.mono HB.out.size))
      clear hb
      have t0 : w3.cell? ⟨w.heap.size, 0, none⟩ = some (.int .i64 k) := HX.out.cell 0
      have t1 : w3.cell? ⟨w.heap.size, 1, none⟩ = some (.slice ra r.length rc) := HX.out.cell 1
      have t2 : w3.cell? ⟨w.heap.size, 2, none⟩ = some (.int .i64 ast) := HX.out.cell 2
      have t3 : w3.cell? ⟨w.heap.size, 3, none⟩ = some (.slice sa l.length sc) := HX.out.cell 3
      have t4 : w3.cell? ⟨w.heap.size, 4, none⟩ = some (.int .i64 mn) := HX.out.cell 4
      have t5 : w3.cell? ⟨w.heap.size, 5, none⟩ = some (.int .i64 mx) := HX.out.cell 5
      have t6 : w3.cell? ⟨w.heap.size, 6, none⟩ = some (.bool z) := HX.out.cell 6
      have t7 : w3.cell? ⟨w.heap.size, 7, none⟩ = some (.int .i64 ix) := HX.out.cell 7
      have t8 : w3.cell? ⟨w.heap.size, 8, none⟩ = some (.string nm) := HX.out.cell 8
      simp only []
      go_wp2_with fail
      refine (HSI.out w3 HT.out (fun b hb => Nat.lt_of_lt_of_le (HSS.out b hb) HB.out.size)).mono ?_
      rintro e w4 ⟨s, rfl, htr, hrt, hb⟩
      clear t0 t1 t2 t3 t4 t5 t6 t7 t8
      have HS := Lib.hid (hrt.fr_low HB.out.size)
      have HTR := Lib.hid htr
      clear htr hrt
      have HX := Lib.hid (HX.out.below hb HX.out.lt)
      have HT := Lib.hid (HT.out.below HSS.out (hb.mono HB.out.size))
      have HB := Lib.hid (HB.out.trans (hb.mono HB.out.size))
      clear hb
      obtain ⟨ks, rs, ras, rcs, as_, ls, sas, scs, ns, ms, zs, is_, nms⟩ := s
      have hb : Below w4.heap.size w4 (w4.alloc (.cells #[.int .i64 ks, .slice ras rs.length rcs, .int .i64 as_, .slice sas ls.length scs, .int .i64 ns, .int .i64 ms, .bool zs, .int .i64 is_, .string nms] 25)) := (Below.refl _ _).alloc (Nat.le_refl _) _
      have HY := Lib.hid (Blk.new w4 25 [.int .i64 ks, .slice ras rs.length rcs, .int .i64 as_, .slice sas ls.length scs, .int .i64 ns, .int .i64 ms, .bool zs, .int .i64 is_, .string nms])
      have HX := Lib.hid (HX.out.below hb HX.out.lt)
      have HT := Lib.hid (HT.out.below HSS.out (hb.mono HB.out.size))
      have HS := Lib.hid (HS.out.fr_below hb)
      have HB := Lib.hid (HB.out.trans (hb.mono HB.out.size))
      clear hb
      have t0 : (w4.alloc (.cells #[.int .i64 ks, .slice ras rs.length rcs, .int .i64 as_, .slice sas ls.length scs, .int .i64 ns, .int .i64 ms, .bool zs, .int .i64 is_, .string nms] 25)).cell? ⟨w.heap.size, 0, none⟩ = some (.int .i64 k) := HX.out.cell 0
      have t1 : (w4.alloc (.cells #[.int .i64 ks, .slice ras rs.length rcs, .int .i64 as_, .slice sas ls.length scs, .int .i64 ns, .int .i64 ms, .bool zs, .int .i64 is_, .string nms] 25)).cell? ⟨w.heap.size, 1, none⟩ = some (.slice ra r.length rc) := HX.out.cell 1
      have t2 : (w4.alloc (.cells #[.int .i64 ks, .slice ras rs.length rcs, .int .i64 as_, .slice sas ls.length scs, .int .i64 ns, .int .i64 ms, .bool zs, .int .i64 is_, .string nms] 25)).cell? ⟨w.heap.size, 2, none⟩ = some (.int .i64 ast) := HX.out.cell 2
      have t3 : (w4.alloc (.cells #[.int .i64 ks, .slice ras rs.length rcs, .int .i64 as_, .slice sas ls.length scs, .int .i64 ns, .int .i64 ms, .bool zs, .int .i64 is_, .string nms] 25)).cell? ⟨w.heap.size, 3, none⟩ = some (.slice sa l.length sc) := HX.out.cell 3
      have t4 : (w4.alloc (.cells #[.int .i64 ks, .slice ras rs.length rcs, .int .i64 as_, .slice sas ls.length scs, .int .i64 ns, .int .i64 ms, .bool zs, .int .i64 is_, .string nms] 25)).cell? ⟨w.heap.size, 4, none⟩ = some (.int .i64 mn) := HX.out.cell 4
      have t5 : (w4.alloc (.cells #[.int .i64 ks, .slice ras rs.length rcs, .int .i64 as_, .slice sas ls.length scs, .int .i64 ns, .int .i64 ms, .bool zs, .int .i64 is_, .string nms] 25)).cell? ⟨w.heap.size, 5, none⟩ = some (.int .i64 mx) := HX.out.cell 5
      have t6 : (w4.alloc (.cells #[.int .i64 ks, .slice ras rs.length rcs, .int .i64 as_, .slice sas ls.length scs, .int .i64 ns, .int .i64 ms, .bool zs, .int .i64 is_, .string nms] 25)).cell? ⟨w.heap.size, 6, none⟩ = some (.bool z) := HX.out.cell 6
      have t7 : (w4.alloc (.cells #[.int .i64 ks, .slice ras rs.length rcs, .int .i64 as_, .slice sas ls.length scs, .int .i64 ns, .int .i64 ms, .bool zs, .int .i64 is_, .string nms] 25)).cell? ⟨w.heap.size, 7, none⟩ = some (.int .i64 ix) := HX.out.cell 7
      have t8 : (w4.alloc (.cells #[.int .i64 ks, .slice ras rs.length rcs, .int .i64 as_, .slice sas ls.length scs, .int .i64 ns, .int .i64 ms, .bool zs, .int .i64 is_, .string nms] 25)).cell? ⟨w.heap.size, 8, none⟩ = some (.string nm) := HX.out.cell 8
      simp only [Ta.val, Ta.vals]
      rcases HW.out with ⟨rfl, -, -⟩ | ⟨rfl, -, -⟩ | ⟨rfl, -, -, -, -, -, hsz, hle, hal, hfs⟩
      · go_wp2_with fail
        go_ret
        exact ⟨rfl, HB.out⟩
      · go_wp2_with fail
        go_ret
        exact ⟨rfl, HB.out⟩
      · go_wp2_with fail
        have HSA := Lib.hid (groups_same hal)
        rw [← hfs] at HSA
        have hsT : size (Ta.mk k r ra rc ast l sa sc mn mx z ix nm).tr ≤ 4194304 := by have := HDP.out; simp only [false_eq_decide_iff] at this; omega
        generalize w4.alloc (.cells #[.int .i64 ks, .slice ras rs.length rcs, .int .i64 as_, .slice sas ls.length scs, .int .i64 ns, .int .i64 ms, .bool zs, .int .i64 is_, .string nms] 25) = w5 at *
        generalize w4.heap.size = sb at *
        refine (groups_any (Ta.mk k r ra rc ast l sa sc mn mx z ix nm) S w5 w5.heap.size (.slice none 0 0) (.slice none 0 0) [] HT.out (fun b hb => Nat.lt_of_lt_of_le (HSS.out b hb) HB.out.size) (Nat.le_refl _) ⟨World.ownsRow_nil _ _ _ _, World.ownsRow_nil _ _ _ _⟩ (by simp; omega)).mono ?_
        rintro e w6 ⟨a1, b1, rfl, hq⟩
        have hb : Below w5.heap.size w5 w6 := hq.kept.below (by simp [Value.ownBlock]) (Nat.le_refl _)
        have HV := Lib.hid hq.gv
        clear hq t0 t1 t2 t3 t4 t5 t6 t7 t8
        have HY := Lib.hid (HY.out.below hb HY.out.lt)
        have HS := Lib.hid (HS.out.fr_below hb)
        have HB := Lib.hid (HB.out.trans (hb.mono HB.out.size))
        clear hb
        have y0 : w6.cell? ⟨sb, 0, none⟩ = some (.int .i64 ks) := HY.out.cell 0
        have y1 : w6.cell? ⟨sb, 1, none⟩ = some (.slice ras rs.length rcs) := HY.out.cell 1
        have y2 : w6.cell? ⟨sb, 2, none⟩ = some (.int .i64 as_) := HY.out.cell 2
        have y3 : w6.cell? ⟨sb, 3, none⟩ = some (.slice sas ls.length scs) := HY.out.cell 3
        have y4 : w6.cell? ⟨sb, 4, none⟩ = some (.int .i64 ns) := HY.out.cell 4
        have y5 : w6.cell? ⟨sb, 5, none⟩ = some (.int .i64 ms) := HY.out.cell 5
        have y6 : w6.cell? ⟨sb, 6, none⟩ = some (.bool zs) := HY.out.cell 6
        have y7 : w6.cell? ⟨sb, 7, none⟩ = some (.int .i64 is_) := HY.out.cell 7
        have y8 : w6.cell? ⟨sb, 8, none⟩ = some (.string nms) := HY.out.cell 8
        clear HT HX
        simp only []
        go_wp2_with fail
        have hsF : size (Ta.mk ks rs ras rcs as_ ls sas scs ns ms zs is_ nms).tr ≤ 1000000000 := by rw [HTR.out]; omega
        refine (groups_any (Ta.mk ks rs ras rcs as_ ls sas scs ns ms zs is_ nms) (Fr w.heap.size [] w6) w6 w6.heap.size (.slice none 0 0) (.slice none 0 0) [] HS.out (fun b hb => hb.2.1) (Nat.le_refl _) ⟨World.ownsRow_nil _ _ _ _, World.ownsRow_nil _ _ _ _⟩ (by simp; omega)).mono ?_
        rintro e w7 ⟨a2, b2, rfl, hq⟩
        have hb : Below w6.heap.size w6 w7 := hq.kept.below (by simp [Value.ownBlock]) (Nat.le_refl _)
        have HV := Lib.hid (HV.out.below hb)
        have HV2 := Lib.hid hq.gv
        have HB := Lib.hid (HB.out.trans (hb.mono HB.out.size))
        have hq2 := hq.gv
        rw [HTR.out] at hq2
        have HV2 := Lib.hid hq2
        have hlA := groups_len (Ta.mk k r ra rc ast l sa sc mn mx z ix nm).tr []
        obtain ⟨A, hA⟩ : ∃ q, q = groupsS (Ta.mk k r ra rc ast l sa sc mn mx z ix nm).tr [] := ⟨_, rfl⟩
        obtain ⟨D, hD⟩ : ∃ q, q = groupsS fs [] := ⟨_, rfl⟩
        rw [← hA, ← hD] at HSA
        rw [← hA] at HV hlA
        rw [← hD] at HV2
        have HL := Lib.hid (show A.length ≤ 1000000000 from by simp only [List.length_nil] at hlA; omega)
        have hLE := HSA.out.1
        have hLD : D.length ≤ 1000000000 := by rw [← hLE]; exact HL.out
        clear hq hb hq2 hA hD hlA hsF hsT HS HY HTR y0 y1 y2 y3 y4 y5 y6 y7 y8 HW HSI HSZ hal hfs hsz hle HSS HDP
        obtain ⟨k1, c1, rfl⟩ := own_shape HV.out.ia
        obtain ⟨k2, c2, rfl⟩ := own_shape HV.out.ib
        obtain ⟨k3, c3, rfl⟩ := own_shape HV2.out.ia
        obtain ⟨k4, c4, rfl⟩ := own_shape HV2.out.ib
        simp only []
        go_wp2_with fail
        go_loopw [12] (fun iv wr => ∃ (i m : Nat), i ≤ D.length ∧ iv = .int .i64 (i : Int) ∧ wr = w7.drewN m) (fun iv _ => D.length - (intOf iv).toNat)
        case atStart => exact ⟨0, 0, Nat.zero_le _, rfl, rfl⟩
        case round =>
          obtain ⟨i, m, hi, rfl, rfl⟩ := hrel
          have hbm := bdrewN HB.out m
          by_cases hlt : i < D.length
          · have hlt2 : (i : Int) < (D.length : Int) := by omega
            have hltA : i < A.length := by omega
            obtain ⟨g1, rfl, -, hge1, hgl1⟩ := own_form HV.out.ia (by omega)
            obtain ⟨g2, rfl, -, hge2, hgl2⟩ := own_form HV.out.ib (by omega)
            obtain ⟨g3, rfl, -, hge3, hgl3⟩ := own_form HV2.out.ia (by omega)
            obtain ⟨g4, rfl, -, hge4, hgl4⟩ := own_form HV2.out.ib (by omega)
            obtain ⟨y, hy⟩ : ∃ y, A[i]? = some y := ⟨_, List.getElem?_eq_getElem hltA⟩
            have hyD : y ∈ D := HSA.out.2 y (List.mem_of_getElem? hy)
            have HYD := Lib.hid hyD
            have e1 : w7.cell? ⟨g1, i, none⟩ = some (.int .i64 y.1) := own_cell HV.out.ia (by unfold ixs; rw [List.getElem?_map, hy]; rfl)
            have e2 : w7.cell? ⟨g2, i, none⟩ = some (.string y.2) := own_cell HV.out.ib (by unfold Go.Proofs.Ytajpkgbgfneacaa.nms; rw [List.getElem?_map, hy]; rfl)
            clear hyD hy
            go_wp2_with fail
            go_loopw [13, 14] (fun bv iv wr => ∃ (j mm : Nat), j ≤ D.length ∧ iv = .int .i64 (j : Int) ∧ bv = .bool (hasG (D.take j) y) ∧ wr = w7.drewN mm) (fun _ iv _ => D.length - (intOf iv).toNat)
            case atStart => exact ⟨0, m, Nat.zero_le _, rfl, rfl, rfl⟩
            case round =>
              obtain ⟨j, mm, hj, rfl, rfl, rfl⟩ := hrel
              by_cases hltj : j < D.length
              · have hltj2 : (j : Int) < (D.length : Int) := by omega
                obtain ⟨x, hx⟩ : ∃ x, D[j]? = some x := ⟨_, List.getElem?_eq_getElem hltj⟩
                have d1 : w7.cell? ⟨g3, j, none⟩ = some (.int .i64 x.1) := own_cell HV2.out.ia (by unfold ixs; rw [List.getElem?_map, hx]; rfl)
                have d2 : w7.cell? ⟨g4, j, none⟩ = some (.string x.2) := own_cell HV2.out.ib (by unfold Go.Proofs.Ytajpkgbgfneacaa.nms; rw [List.getElem?_map, hx]; rfl)
                obtain ⟨th, hth⟩ : ∃ q, q = hasG (D.take j) y := ⟨_, rfl⟩
                rw [← hth]
                have hnx : hasG (D.take (j + 1)) y = (th || ((x.1 == y.1) && (x.2.toList == y.2.toList))) := by
                  rw [List.take_add_one, hx, hth, str_eq]
                  unfold hasG
                  rw [List.any_append]
                  simp
                  rfl
                have HNX := Lib.hid hnx
                clear hnx hth hx
                obtain ⟨b1, hb1⟩ : ∃ q, (x.1 == y.1) = q := ⟨_, rfl⟩
                cases th with
                | true =>
                  go_wp2_with fail
                  go_quiet (fail)
                  go_wp2_with fail
                  go_roundw
                  case rel => exact ⟨j + 1, mm + nq, by omega, by go_num, by rw [HNX.out]; first | rfl | rw [hb1]; rfl, by first | rfl | rw [World.drewN_drewN]⟩
                  case measure => simp [intOf]; omega
                | false =>
                  cases b1 with
                  | false =>
                    go_wp2_with fail
                    go_quiet (fail)
                    go_wp2_with fail
                    go_roundw
                    case rel => exact ⟨j + 1, mm + nq, by omega, by go_num, by rw [HNX.out]; first | rfl | rw [hb1]; rfl, by first | rfl | rw [World.drewN_drewN]⟩
                    case measure => simp [intOf]; omega
                  | true =>
                    go_wp2_with fail
                    go_quiet (fail)
                    go_wp2_with fail
                    go_roundw
                    case rel => exact ⟨j + 1, mm + nq, by omega, by go_num, by rw [HNX.out]; first | rfl | rw [hb1]; rfl, by first | rfl | rw [World.drewN_drewN]⟩
                    case measure => simp [intOf]; omega
              · obtain rfl : j = D.length := by omega
                have hltj2 : ¬ ((D.length : Int) < (D.length : Int)) := by omega
                have hth : hasG (D.take D.length) y = true := by rw [List.take_length]; exact (hasG_iff _ _).2 HYD.out
                rw [hth]
                clear hth
                go_wp2_with fail
                go_roundw
                case rel => exact ⟨i + 1, mm, by omega, by go_num, rfl⟩
                case measure => simp [intOf]; omega
          · obtain rfl : i = D.length := by omega
            have hlt2 : ¬ ((D.length : Int) < (D.length : Int)) := by omega
            go_wp2_with fail
            go_ret
            exact ⟨rfl, hbm⟩
end Go.Proofs.Ytajpkgbgfneacaa
