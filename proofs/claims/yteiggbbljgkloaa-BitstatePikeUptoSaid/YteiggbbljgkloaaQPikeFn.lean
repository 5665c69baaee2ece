/- pike: with, put, fits. -/
import Derived.Test.YteiggbbljgkloaaQPike
import Derived.Test.YteiggbbljgkloaaQFits
import Derived.Test.YteiggbbljgkloaaQLookAt
namespace Go.Proofs.Yteiggbbljgkloaa
open Go.RowKit Go.Proofs.Yteiggbbljgkloaa.Mach

theorem int_size1 : (Try.prog.info? 3).map (·.size) = some 1 := by kernel_rfl

set_option maxRecDepth 100000 in
set_option maxHeartbeats 2000000 in
theorem with_any (g cl which place : Nat) (c : List Int) (w : World) (hb : Blk w g 3 (c.map (Value.int .i64))) (hc : c.length = cl) (hw : which < cl) (hcl : cl ≤ 1002) :
    Calls Try.prog 41 #[.slice (some ⟨g, 0, none⟩) cl cl, .int .i64 (which : Int), .int .i64 (place : Int)] w fun e w' =>
      e = .returned (.slice (some ⟨w.heap.size, 0, none⟩) cl cl) ∧ Blk w' w.heap.size 3 ((c.set which (place : Int)).map (Value.int .i64)) ∧ Below w.heap.size w w' := by
  obtain ⟨iI, hiI, hz0I, hz1I, hz2I⟩ := info_parts int_info
  have hmkC : ∀ u : World, (Instr.makeSlice 25 (.int .i64 (cl : Int)) (.int .i64 (cl : Int))).run Try.prog u =
      .ok (.slice (some ⟨u.heap.size, 0, none⟩) cl cl) (u.alloc (.cells ((List.replicate cl (0 : Int)).map (Value.int .i64)).toArray 3)) := fun u => by
    have h := run_make (P := Try.prog) u 25 3 iI (.int .i64 0) Try.underlying25 hiI hz0I .i64 .i64 (cl : Int) (cl : Int) (by omega) (Int.le_refl _) (by rw [hz2I]; omega) (by omega)
    have hmd : madeCells #[.int .i64 0] cl = ((List.replicate cl (0 : Int)).map (Value.int .i64)).toArray := by
      apply Array.toList_inj.1
      rw [toList_madeCells_one]; simp
    rw [Int.toNat_natCast] at h
    rw [← hmd]
    simpa [hz1I, Value.cells] using h
  have hsrc : Reads w w.heap.size 1 (some ⟨g, 0, none⟩) cl cl (c.map (Value.int .i64)) := by
    have := hb.reads (size := 1) (n := cl) (c := cl) (Nat.le_refl _) (by omega) (by simp; omega)
    rwa [List.take_of_length_le (by simp; omega)] at this
  have hbA : Below w.heap.size w (w.alloc (.cells ((List.replicate cl (0 : Int)).map (Value.int .i64)).toArray 3)) := (Below.refl _ _).alloc (Nat.le_refl _) _
  have hblk := Blk.new w 3 ((List.replicate cl (0 : Int)).map (Value.int .i64))
  have hrA := hsrc.below hbA
  have hw2 : (which : Int) < (cl : Int) := by omega
  have hw3 : ¬ ((cl : Int) ≤ (which : Int)) := by omega
  clear hiI hz0I hz1I hz2I hsrc
  generalize hX : (List.replicate cl (0 : Int)).map (Value.int .i64) = X at *
  have hXl : X.length = cl := by rw [← hX]; simp
  have HXL := Lib.hid hXl
  clear hX hXl
  have HC := Lib.hid hc
  obtain ⟨Y, hY⟩ : ∃ Y, Y = c.map (Value.int .i64) := ⟨_, rfl⟩
  rw [← hY] at hrA
  have HY := Lib.hid hY
  clear hY
  have HCP := Lib.hid (fun h => copied hrA h : 0 < Y.length → ∃ ad, (some ⟨g, 0, none⟩ : Option Addr) = some ad ∧ ∀ j v, Y[j]? = some v → (w.alloc (.cells X.toArray 3)).cell? (ad.add j) = some v)
  have HBA := Lib.hid hbA
  have HBK := Lib.hid hblk
  clear hbA hblk hrA hb hc
  obtain ⟨u, hu⟩ : ∃ u, c[which]? = some u := ⟨_, List.getElem?_eq_getElem (by rw [HC.out]; exact hw)⟩
  have HU := Lib.hid hu
  clear hu
  obtain ⟨G, hG⟩ : ∃ G, G = w.heap.size := ⟨_, rfl⟩
  have HG := Lib.hid hG
  go_enter Try.func41, Try.ntmps41
  have hY1 : ∀ v ∈ Y, v.oneCell' = true := by rw [HY.out]; exact ints_oneCell _ _
  have hmin : Y.length = Nat.min cl cl := by rw [HY.out, List.length_map, HC.out]; exact (Nat.min_self _).symm
  have hfit : 0 + Y.length ≤ X.length := by rw [HY.out, List.length_map, HC.out, HXL.out]; omega
  have hsp : splice X 0 Y = Y := by unfold splice; simp [HY.out, HC.out, HXL.out]
  have HY1 := Lib.hid hY1
  have HMIN := Lib.hid hmin
  have HFIT := Lib.hid hfit
  have HSP := Lib.hid hsp
  clear hY1 hmin hfit hsp
  go_wp2_with (with_reducible refine wpList_copy_splice rfl (.tmp 11) (.tmp 12) 25 25 rfl 3 Try.underlying25 int_size1 _ (some ⟨g, 0, none⟩) _ _ _ _ rfl rfl w.heap.size 0 X 3 HBK.out.raw Y HMIN.out (fun h => ⟨rfl, HCP.out h⟩) HFIT.out HY1.out w.heap.size w HBA.out (Nat.le_refl _) ?_; intro w1 hw1 hb1; have hblk1 : Blk w1 w.heap.size 3 Y := (by have := Blk.mk hw1.out; rwa [HSP.out] at this); have q1 : w1.cell? ⟨w.heap.size, which, none⟩ = some (.int .i64 u) := (by rw [hblk1.cell, HY.out, List.getElem?_map, HU.out, Option.map_some]); have q2 := hblk1.frozen which; have HBK1 := Lib.hid hblk1; have HB1 := Lib.hid hb1; clear hw1 hblk1 hb1)
  go_ret
  refine ⟨rfl, ?_, ?_⟩
  · have := HBK1.out.set_ which (.int .i64 (place : Int))
    rwa [HY.out] at this
  · exact Below.kept HB1.out (Kept.setCell _ _) (by intro q hq; rw [List.mem_singleton] at hq; rw [hq]; exact Nat.le_refl _) HB1.out.size

set_option maxRecDepth 100000 in
set_option maxHeartbeats 2000000 in
theorem put_any (x : Px) (LV NV : Value) (met : List Nat) (nxt : List TV) (k : Nat) (bits : Int) (f : Option Fd) (st : Int) (w : World) (v : TV) (h : Pk x LV NV met nxt k bits f st w) (hv : Tok x LV.ownBlock w v) (hn : nxt.length ≤ 1000000000) :
    Calls Try.prog 38 #[.pointer (some ⟨x.rb, 0, none⟩), .agg #[.int .i64 (v.i : Int), .slice (some ⟨v.g, 0, none⟩) x.cl x.cl]] w fun e w' => e = .returned (.tuple #[]) ∧
      ∃ NV', Pk x LV NV' met (nxt ++ [v]) k bits f st w' ∧ Kept w w' (x.rb :: NV.ownBlock.toList) ∧ (NV'.ownBlock = NV.ownBlock ∨ ∃ q, w.heap.size ≤ q ∧ NV'.ownBlock = some q) := by
  obtain ⟨A, c, rfl⟩ := own_shape h.own
  obtain ⟨i0, hi, hz0, hz1, hz2⟩ := info_parts info_thread
  obtain ⟨f1, f2, f3, f4, f5, f6, f7, f8, f9⟩ := h.far
  have c7 : w.cell? ⟨x.rb, 7, none⟩ = some (.slice A nxt.length c) := h.run.cell 7
  have hlt := h.run.lt
  have H := Lib.hid h
  have HV := Lib.hid hv
  have F5 := Lib.hid f5
  clear h hv f1 f2 f3 f4 f5 f6 f7 f8 f9
  go_enter Try.func38, Try.ntmps38
  go_wp2_with fail
  obtain ⟨o1, ho1e⟩ : ∃ o1 : Obj, o1 = .cells #[.int .i64 (v.i : Int), .slice (some ⟨v.g, 0, none⟩) x.cl x.cl] 95 := ⟨_, rfl⟩
  rw [← ho1e]
  have hbx := Blk.new w 95 [.int .i64 (v.i : Int), .slice (some ⟨v.g, 0, none⟩) x.cl x.cl]
  rw [show (Obj.cells ([Value.int .i64 (v.i : Int), .slice (some ⟨v.g, 0, none⟩) x.cl x.cl]).toArray 95) = o1 from by rw [ho1e]] at hbx
  have hp1 := H.out.alloc o1
  have hk1 : Kept w (w.alloc o1) [] := Kept.alloc _
  have hxne : some w.heap.size ≠ (Value.slice A nxt.length c).ownBlock := fun h => by have := own_lt H.out.own w.heap.size h.symm; omega
  have hv1 : Tok x LV.ownBlock (w.alloc o1) v := HV.out.kept hk1 (by simp)
  generalize w.alloc o1 = w1 at *
  obtain ⟨o2, ho2e⟩ : ∃ o2 : Obj, o2 = .cells #[.int .i64 (v.i : Int), .slice (some ⟨v.g, 0, none⟩) x.cl x.cl] 95 := ⟨_, rfl⟩
  have hp2 := hp1.alloc o2
  have hbx2 := hbx.alloc o2
  have e0 : w1.cell? ⟨x.rb, 7, none⟩ = some (.slice A nxt.length c) := hp1.run.cell 7
  have e1 : w1.cell? ⟨w.heap.size, 0, none⟩ = some (.int .i64 (v.i : Int)) := hbx.cell 0
  have e2 : w1.cell? ⟨w.heap.size, 1, none⟩ = some (.slice (some ⟨v.g, 0, none⟩) x.cl x.cl) := hbx.cell 1
  have g0 : (w1.alloc o2).cell? ⟨x.rb, 7, none⟩ = some (.slice A nxt.length c) := hp2.run.cell 7
  have g1 : (w1.alloc o2).cell? ⟨w.heap.size, 0, none⟩ = some (.int .i64 (v.i : Int)) := hbx2.cell 0
  have g2 : (w1.alloc o2).cell? ⟨w.heap.size, 1, none⟩ = some (.slice (some ⟨v.g, 0, none⟩) x.cl x.cl) := hbx2.cell 1
  subst ho2e
  have hbs1 : x.B ≤ (w1.alloc (.cells #[.int .i64 (v.i : Int), .slice (some ⟨v.g, 0, none⟩) x.cl x.cl] 95)).drew.heap.size := by have := hp2.below.size; simp at this ⊢; exact this
  have ho2 := hp2.own
  have HP2 := Lib.hid hp2
  have HP1 := Lib.hid hp1
  have hbr := hp2.run
  have HBR := Lib.hid hbr
  have hbx3 := Lib.hid hbx2
  clear hbr hbx2 hp1 hp2 c7 hbx
  go_region_law (first
    | (refine step_append_lies _ rfl (.tmp 8) (.tmp 10) 72 rfl x.B 95 i0 (.agg #[.int .i64 0, .slice none 0 0]) 2 32 Try.underlying72 hi hz0 hz1 hz2 rfl (by decide) (.slice A nxt.length c) nxt.length (thsRow x.cl nxt) rfl ho2.drew ⟨w1.heap.size, 0, none⟩ 1 1 [.int .i64 (v.i : Int), .slice (some ⟨v.g, 0, none⟩) x.cl x.cl] rfl rfl (new_at w1 _ [.int .i64 (v.i : Int), .slice (some ⟨v.g, 0, none⟩) x.cl x.cl]) (by simp [Value.oneCell']) (by decide) (by unfold maxLen; omega) (by omega) hbs1 _ rfl ?_; intro g cap2 w2 hou2 hg2 hat2 hlt2; have hb3 := HBR.out.drew.grown hg2 F5.out; have hbx4 := hbx3.out.drew.grown hg2 hxne; have q1 := hb3.cell 7; have q2 := hb3.frozen 7; have q3 := hb3.lt; simp only [Px.cells, List.getElem?_cons_succ, List.getElem?_cons_zero] at q1))
  all_goals
    go_end0
    have kk : Kept (w1.alloc (.cells #[.int .i64 (v.i : Int), .slice (some ⟨v.g, 0, none⟩) x.cl x.cl] 95)).drew w2 (Value.slice A nxt.length c).ownBlock.toList := Kept.of_grown' hg2
    have kw : Kept w w2 (Value.slice A nxt.length c).ownBlock.toList := (hk1.trans ((Kept.alloc (L := []) (.cells #[.int .i64 (v.i : Int), .slice (some ⟨v.g, 0, none⟩) x.cl x.cl] 95)).trans ((Kept.drew (L := [])).trans kk))).more (by intro k hk; simp at hk ⊢; exact .inl hk)
    have hv2 : Tok x LV.ownBlock ((w1.alloc (.cells #[.int .i64 (v.i : Int), .slice (some ⟨v.g, 0, none⟩) x.cl x.cl] 95)).drew) v := hv1.kept ((Kept.alloc (L := []) _).trans (Kept.drew (L := []))) (by simp)
    refine ⟨rfl, .slice (some ⟨g, 0, none⟩) (nxt.length + 1) cap2, ?_, ?_, ?_⟩
    · refine HP2.out.drew.turned kk (l := nxt ++ [v]) ?_ ?_
      · rw [List.length_append, thsRow_append]
        exact hou2
      · intro u hu
        rcases List.mem_append.1 hu with hu | hu
        · exact HP2.out.drew.ok u hu
        · rw [List.mem_singleton] at hu
          subst hu
          exact hv2
    · exact (kw.trans (Kept.setCell ⟨x.rb, 7, none⟩ _)).more (by intro k hk; simp at hk ⊢; rcases hk with hk | hk; exact .inl (.inr hk); exact .inl (.inl hk))
    · rcases hat2 with e | e
      · exact .inl (by rw [e]; rfl)
      · exact .inr ⟨g, by rw [e]; have := hk1.size; simp; omega, rfl⟩

set_option maxRecDepth 100000 in
set_option maxHeartbeats 4000000 in
theorem fits_any (x : Px) (LV NV : Value) (met : List Nat) (nxt : List TV) (k : Nat) (bits : Int) (f : Option Fd) (st : Int) (w : World) (A : Option Addr) (n c : Nat) (l : List (Int × Int)) (t : List Int) (h : Pk x LV NV met nxt k bits f st w)
    (hT : Reads w w.heap.size 1 x.At x.nt x.ct (t.map (Value.int .i64))) (hR : Reads w w.heap.size 2 A n c (flat l)) (hright : rightB l = true) (hk : k ≤ x.nt) (hnt : x.nt ≤ 4194304) :
    Calls Try.prog 40 #[.pointer (some ⟨x.rb, 0, none⟩), .slice A n c] w fun e w' => e = .returned (.bool (decide (k < x.nt) && memB l (t.getD k 0))) ∧ ∃ m, w' = w.drewN m := by
  obtain ⟨c0, c1, c2, c3, c4, _⟩ := h.cells
  have hlt := h.run.lt
  have hl : l.length = n := by have := hR.len; rw [flat_length] at this; omega
  have hn : n ≤ 5000 := by unfold rightB at hright; rw [Bool.and_eq_true, decide_eq_true_eq] at hright; omega
  by_cases hkn : k < x.nt
  · have hkn2 : ¬ ((k : Int) = (x.nt : Int)) := by omega
    have hkn3 : (k : Int) < (x.nt : Int) := by omega
    obtain ⟨tb, to_, hTA, _⟩ := hT.at_ (by omega)
    rw [hTA] at c3 hT
    have t0 := text_at hT hkn
    obtain ⟨z, hz⟩ : ∃ z, t.getD k 0 = z := ⟨_, rfl⟩
    rw [hz] at t0
    have HZ := Lib.hid hz
    have HR := Lib.hid hR
    have HG := Lib.hid hright
    have HL := Lib.hid hl
    have hd : decide (k < x.nt) = true := decide_eq_true hkn
    have HD := Lib.hid hd
    clear h hT hR hright hTA hz hl hd c0 c1 c2
    go_enter Try.func40, Try.ntmps40
    go_wp2_with fail
    go_quiet (fail)
    go_wp2_with fail
    go_quiet (fail)
    go_wp2_with fail
    go_loopw [6, 7] (fun fr to wr => ∃ i j : Nat, fr = .int .i64 i ∧ to = .int .i64 j ∧ i ≤ j ∧ j ≤ n ∧ (∀ q, q < i → hiAt l q < z) ∧ (∀ q, j ≤ q → q < l.length → z ≤ hiAt l q) ∧ ∃ m, wr = w.drewN m) (fun fr to _ => (intOf to).toNat - (intOf fr).toNat)
    case atStart => exact ⟨0, n, rfl, rfl, Nat.zero_le _, Nat.le_refl _, fun q hq => absurd hq (by omega), fun q h1 h2 => by have := HL.out; omega, _, rfl⟩
    case round =>
      obtain ⟨i, j, rfl, rfl, hij, hjn, hlo, hhi, m, rfl⟩ := hrel
      have HLO := Lib.hid hlo
      have HHI := Lib.hid hhi
      clear hlo hhi
      by_cases hlt2 : i < j
      · obtain ⟨ab, ao, rfl, hab⟩ := HR.out.at_ (by omega)
        have hm2 : (i + j) / 2 < j := by omega
        have hm3 : i ≤ (i + j) / 2 := by omega
        have hij2 : (i : Int) < (j : Int) := by omega
        have hm5 : ((i : Int) + (j : Int)) / 2 < (n : Int) := by omega
        have hm6 : 0 ≤ ((i : Int) + (j : Int)) / 2 := by omega
        obtain ⟨y, hy⟩ : ∃ y, l[((i + j) / 2)]? = some y := ⟨_, List.getElem?_eq_getElem (by rw [HL.out]; omega)⟩
        have r1 : (w.drewN m).cell? ⟨ab, ao + ((i + j) / 2) * 2 + 1, none⟩ = some (.int .i64 y.2) := by
          rw [Nat.add_assoc]; exact (HR.out.drewN m).cellAt (flat_get l ((i + j) / 2) y hy).2
        have HY := Lib.hid (show hiAt l ((i + j) / 2) = y.2 from by unfold hiAt; rw [hy]; rfl)
        clear hy
        by_cases hc2 : y.2 < z
        · go_wp2_with fail
          go_roundw
          case rel =>
            refine ⟨((i + j) / 2) + 1, j, by go_num, rfl, by omega, hjn, ?_, HHI.out, m, rfl⟩
            intro q hq
            have := right_hi HG.out (i := q) (j := ((i + j) / 2)) (by omega) (by rw [HL.out]; omega)
            rw [HY.out] at this
            omega
          case measure => simp [intOf]; omega
        · go_wp2_with fail
          go_roundw
          case rel =>
            refine ⟨i, ((i + j) / 2), rfl, rfl, by omega, by omega, HLO.out, ?_, m, rfl⟩
            intro q hq hql
            have := right_hi HG.out (i := ((i + j) / 2)) (j := q) hq hql
            rw [HY.out] at this
            omega
          case measure => simp [intOf]; omega
      · obtain rfl : i = j := by omega
        have hend := fits_end HG.out (f := i) (c := z) (by rw [HL.out]; exact hjn) HLO.out HHI.out
        by_cases hin : i < n
        · obtain ⟨ab, ao, rfl, hab⟩ := HR.out.at_ (by omega)
          have hin2 : (i : Int) < (n : Int) := by omega
          obtain ⟨y, hy⟩ : ∃ y, l[i]? = some y := ⟨_, List.getElem?_eq_getElem (by rw [HL.out]; omega)⟩
          have r1 : (w.drewN m).cell? ⟨ab, ao + i * 2, none⟩ = some (.int .i64 y.1) := (HR.out.drewN m).cellAt (flat_get l i y hy).1
          have hlo2 : loAt l i = y.1 := by unfold loAt; rw [hy]; rfl
          rw [hlo2, show decide (i < l.length) = true from decide_eq_true (by rw [HL.out]; exact hin), Bool.true_and] at hend
          have HE := Lib.hid hend
          clear hend hy hlo2
          go_wp2_with fail
          go_ret
          refine ⟨ret_bool ?_, m, rfl⟩
          rw [HD.out, HZ.out, Bool.true_and, ← HE.out]
        · have hin2 : ¬ ((i : Int) < (n : Int)) := by omega
          rw [show decide (i < l.length) = false from decide_eq_false (by rw [HL.out]; exact hin), Bool.false_and] at hend
          have HE := Lib.hid hend
          clear hend
          go_wp2_with fail
          go_ret
          refine ⟨ret_bool ?_, m, rfl⟩
          first
            | (rw [HD.out, HZ.out, Bool.true_and, ← HE.out])
            | (have e1 := HZ.out; rw [List.getD_eq_getElem?_getD] at e1; rw [e1]; exact HE.out)
  · have hkn2 : (k : Int) = (x.nt : Int) := by omega
    have hd : decide (k < x.nt) = false := decide_eq_false hkn
    have HD := Lib.hid hd
    rw [hkn2] at c4
    clear h hT hR hright hl hd c0 c1 c2
    go_enter Try.func40, Try.ntmps40
    go_wp2_with fail
    go_quiet (fail)
    go_wp2_with fail
    go_ret
    exact ⟨ret_bool (by rw [HD.out, Bool.false_and]), _, rfl⟩
end Go.Proofs.Yteiggbbljgkloaa
