/- heronlaw12.BitstateRuns: the walk. -/
import Derived.Test.YteiggbbljgkloaaRunsAid
namespace Go.Proofs.Yteiggbbljgkloaa
open Go.RowKit Go.Proofs.Yteiggbbljgkloaa.Mach Go.Proofs.Yteiggbbljgkloaa.OwnG

set_option maxRecDepth 1000000 in
set_option maxHeartbeats 8000000 in
theorem runs_walk (A At C Ct : Option Addr) (n c nt ct m d mt dt : Nat) (L L2 : List InV) (t t2 : List Int) (start caps at_ start2 caps2 at2 : Int) (anch anch2 : Bool) (w : World)
    (hr : ReadsP w w.heap.size A n c L) (ht : Reads w w.heap.size 1 At nt ct (t.map (Value.int .i64))) (hr2 : ReadsP w w.heap.size C m d L2) (ht2 : Reads w w.heap.size 1 Ct mt dt (t2.map (Value.int .i64)))
    (hn : n ≤ 1048576) (hns : ∀ v ∈ L, v.n ≤ 1048576) (hnt : nt ≤ 1048576) :
    Calls Try.prog 3 #[.agg #[.slice A n c, .int .i64 start, .int .i64 caps, .slice At nt ct, .int .i64 at_, .bool anch], .agg #[.slice C m d, .int .i64 start2, .int .i64 caps2, .slice Ct mt dt, .int .i64 at2, .bool anch2]] w fun e w' => e = .returned (.bool true) ∧ Below w.heap.size w w' := by
  obtain ⟨hA, hO⟩ := cells_two w 27 [.slice A n c, .int .i64 start, .int .i64 caps, .slice At nt ct, .int .i64 at_, .bool anch] [.slice C m d, .int .i64 start2, .int .i64 caps2, .slice Ct mt dt, .int .i64 at2, .bool anch2]
  have hb0 : Below w.heap.size w ((w.alloc (.cells #[.slice A n c, .int .i64 start, .int .i64 caps, .slice At nt ct, .int .i64 at_, .bool anch] 27)).alloc (.cells #[.slice C m d, .int .i64 start2, .int .i64 caps2, .slice Ct mt dt, .int .i64 at2, .bool anch2] 27)) := ((Below.refl _ _).alloc (Nat.le_refl _) _).alloc (by simp) _
  have htl : t.length = nt := by have := ht.len; simpa using this
  have hnc := hr.1.le
  have hcap := hr.1.cap
  have hnct := ht.le
  have hcapt := ht.cap
  have HTL := Lib.hid htl
  have BA := Lib.hid hA
  have BO := Lib.hid hO
  have RP := Lib.hid (hr.below hb0)
  have RT := Lib.hid (ht.below hb0)
  have RQ := Lib.hid (hr2.below hb0)
  have RU := Lib.hid (ht2.below hb0)
  have B0 := Lib.hid hb0
  have HNS := Lib.hid hns
  have HLN := Lib.hid hr.len
  obtain ⟨R1, hR1⟩ : ∃ R, R = runR ⟨insL L, start, caps⟩ t at_ anch := ⟨_, rfl⟩
  obtain ⟨R2, hR2⟩ : ∃ R, R = runR ⟨insL L2, start2, caps2⟩ t2 at2 anch2 := ⟨_, rfl⟩
  obtain ⟨R3, hR3⟩ : ∃ R, R = runR ⟨insL L, start, caps⟩ (t.map flip) at_ anch := ⟨_, rfl⟩
  have HR1 := Lib.hid hR1
  have HR2 := Lib.hid hR2
  have HR3 := Lib.hid hR3
  have hl1 : (capsOf R1).length ≤ 1002 := by rw [hR1]; exact capsOf_le _ _ _ _
  have hl2 : (capsOf R2).length ≤ 1002 := by rw [hR2]; exact capsOf_le _ _ _ _
  have hl3 : (capsOf R3).length ≤ 1002 := by rw [hR3]; exact capsOf_le _ _ _ _
  clear hA hO hb0 htl hr ht hr2 ht2 hns hR1 hR2 hR3
  go_enter Try.func3, Try.ntmps3
  go_wp2_with fail
  generalize ((w.alloc (.cells #[.slice A n c, .int .i64 start, .int .i64 caps, .slice At nt ct, .int .i64 at_, .bool anch] 27)).alloc (.cells #[.slice C m d, .int .i64 start2, .int .i64 caps2, .slice Ct mt dt, .int .i64 at2, .bool anch2] 27)) = w0 at *
  have G1 := fun (B : Nat) (u : World) (e : Ending) (u' : World) (h : RunPost B u R1 e u') => RP5.of h
  obtain ⟨b1, hb1⟩ : ∃ b, R1.2.1.isSome = b := ⟨_, rfl⟩
  obtain ⟨wh1, hw1⟩ : ∃ b, R1.2.1.elim 0 (·.2) = b := ⟨_, rfl⟩
  obtain ⟨st1, hs1⟩ : ∃ b : Int, (R1.2.2 : Int) = b := ⟨_, rfl⟩
  obtain ⟨er1, he1⟩ : ∃ b, R1.1 = b := ⟨_, rfl⟩
  obtain ⟨l1, hc1⟩ : ∃ b, capsOf R1 = b := ⟨_, rfl⟩
  rw [hb1, hw1, hs1, he1, hc1] at G1
  rw [hc1] at hl1
  replace G1 := Lib.hid G1
  clear hb1 hw1 hs1 he1 hc1
  have G2 := fun (B : Nat) (u : World) (e : Ending) (u' : World) (h : RunPost B u R2 e u') => RP5.of h
  obtain ⟨b2, hb2⟩ : ∃ b, R2.2.1.isSome = b := ⟨_, rfl⟩
  obtain ⟨wh2, hw2⟩ : ∃ b, R2.2.1.elim 0 (·.2) = b := ⟨_, rfl⟩
  obtain ⟨st2, hs2⟩ : ∃ b : Int, (R2.2.2 : Int) = b := ⟨_, rfl⟩
  obtain ⟨er2, he2⟩ : ∃ b, R2.1 = b := ⟨_, rfl⟩
  obtain ⟨l2, hc2⟩ : ∃ b, capsOf R2 = b := ⟨_, rfl⟩
  rw [hb2, hw2, hs2, he2, hc2] at G2
  rw [hc2] at hl2
  replace G2 := Lib.hid G2
  clear hb2 hw2 hs2 he2 hc2
  have G3 := fun (B : Nat) (u : World) (e : Ending) (u' : World) (h : RunPost B u R3 e u') => RP5.of h
  obtain ⟨b3, hb3⟩ : ∃ b, R3.2.1.isSome = b := ⟨_, rfl⟩
  obtain ⟨wh3, hw3⟩ : ∃ b, R3.2.1.elim 0 (·.2) = b := ⟨_, rfl⟩
  obtain ⟨st3, hs3⟩ : ∃ b : Int, (R3.2.2 : Int) = b := ⟨_, rfl⟩
  obtain ⟨er3, he3⟩ : ∃ b, R3.1 = b := ⟨_, rfl⟩
  obtain ⟨l3, hc3⟩ : ∃ b, capsOf R3 = b := ⟨_, rfl⟩
  rw [hb3, hw3, hs3, he3, hc3] at G3
  rw [hc3] at hl3
  replace G3 := Lib.hid G3
  clear hb3 hw3 hs3 he3 hc3
  refine (awake12_any w0).mono ?_
  rintro e w1 ⟨rfl, hbx⟩
  replace BA := Lib.hid (BA.out.below hbx BA.out.lt)
  replace BO := Lib.hid (BO.out.below hbx BO.out.lt)
  replace RP := Lib.hid (RP.out.below (hbx.mono B0.out.size))
  replace RT := Lib.hid (RT.out.below (hbx.mono B0.out.size))
  replace RQ := Lib.hid (RQ.out.below (hbx.mono B0.out.size))
  replace RU := Lib.hid (RU.out.below (hbx.mono B0.out.size))
  replace B0 := Lib.hid (B0.out.trans (hbx.mono B0.out.size))
  clear hbx
  simp only []
  have ba_0 : w1.cell? ⟨w.heap.size, 0, none⟩ = some (.slice A n c) := BA.out.cell 0
  have ba_1 : w1.cell? ⟨w.heap.size, 1, none⟩ = some (.int .i64 start) := BA.out.cell 1
  have ba_2 : w1.cell? ⟨w.heap.size, 2, none⟩ = some (.int .i64 caps) := BA.out.cell 2
  have ba_3 : w1.cell? ⟨w.heap.size, 3, none⟩ = some (.slice At nt ct) := BA.out.cell 3
  have ba_4 : w1.cell? ⟨w.heap.size, 4, none⟩ = some (.int .i64 at_) := BA.out.cell 4
  have ba_5 : w1.cell? ⟨w.heap.size, 5, none⟩ = some (.bool anch) := BA.out.cell 5
  have ba_z := BA.out.lt
  go_wp2_with fail
  clear ba_0 ba_1 ba_2 ba_3 ba_4 ba_5 ba_z
  have hcon := refRun_any A At n c nt ct L t start caps at_ anch w1 (RP.out.more B0.out.size) (RT.out.more B0.out.size)
  rw [← HR1.out] at hcon
  refine (hcon.mono (fun _ _ h => G1.out _ _ _ _ h)).mono ?_
  clear hcon
  rintro e w2 ⟨AOW, cOW, rfl, hoOW, hbx⟩
  replace BA := Lib.hid (BA.out.below hbx BA.out.lt)
  replace BO := Lib.hid (BO.out.below hbx BO.out.lt)
  replace RP := Lib.hid (RP.out.below (hbx.mono B0.out.size))
  replace RT := Lib.hid (RT.out.below (hbx.mono B0.out.size))
  replace RQ := Lib.hid (RQ.out.below (hbx.mono B0.out.size))
  replace RU := Lib.hid (RU.out.below (hbx.mono B0.out.size))
  replace B0 := Lib.hid (B0.out.trans (hbx.mono B0.out.size))
  have OW := Lib.hid hoOW
  clear hoOW
  clear hbx
  simp only []
  have bo_0 : w2.cell? ⟨w.heap.size + 1, 0, none⟩ = some (.slice C m d) := BO.out.cell 0
  have bo_1 : w2.cell? ⟨w.heap.size + 1, 1, none⟩ = some (.int .i64 start2) := BO.out.cell 1
  have bo_2 : w2.cell? ⟨w.heap.size + 1, 2, none⟩ = some (.int .i64 caps2) := BO.out.cell 2
  have bo_3 : w2.cell? ⟨w.heap.size + 1, 3, none⟩ = some (.slice Ct mt dt) := BO.out.cell 3
  have bo_4 : w2.cell? ⟨w.heap.size + 1, 4, none⟩ = some (.int .i64 at2) := BO.out.cell 4
  have bo_5 : w2.cell? ⟨w.heap.size + 1, 5, none⟩ = some (.bool anch2) := BO.out.cell 5
  have bo_z := BO.out.lt
  go_wp2_with fail
  clear bo_0 bo_1 bo_2 bo_3 bo_4 bo_5 bo_z
  have hxw3 : Below w2.heap.size w2 (w2.alloc (.cells #[.bool b1, .slice AOW l1.length cOW, .int .i64 wh1, .int .i64 st1] 30)) := (Below.refl _ _).alloc (Nat.le_refl _) (.cells #[.bool b1, .slice AOW l1.length cOW, .int .i64 wh1, .int .i64 st1] 30)
  have FW := Lib.hid (Blk.new w2 30 [.bool b1, .slice AOW l1.length cOW, .int .i64 wh1, .int .i64 st1])
  obtain ⟨FWa, hFWa⟩ : ∃ x, x = w2.heap.size := ⟨_, rfl⟩
  rw [← hFWa] at FW ⊢
  replace BA := Lib.hid (BA.out.below hxw3 BA.out.lt)
  replace BO := Lib.hid (BO.out.below hxw3 BO.out.lt)
  replace RP := Lib.hid (RP.out.below (hxw3.mono B0.out.size))
  replace RT := Lib.hid (RT.out.below (hxw3.mono B0.out.size))
  replace RQ := Lib.hid (RQ.out.below (hxw3.mono B0.out.size))
  replace RU := Lib.hid (RU.out.below (hxw3.mono B0.out.size))
  replace OW := Lib.hid (own_below OW.out hxw3)
  replace B0 := Lib.hid (B0.out.trans (hxw3.mono B0.out.size))
  clear hxw3 hFWa
  generalize w2.alloc (.cells #[.bool b1, .slice AOW l1.length cOW, .int .i64 wh1, .int .i64 st1] 30) = w3 at *
  have hcon := refRun_any C Ct m d mt dt L2 t2 start2 caps2 at2 anch2 w3 (RQ.out.more B0.out.size) (RU.out.more B0.out.size)
  rw [← HR2.out] at hcon
  refine (hcon.mono (fun _ _ h => G2.out _ _ _ _ h)).mono ?_
  clear hcon
  rintro e w4 ⟨AOX, cOX, rfl, hoOX, hbx⟩
  replace BA := Lib.hid (BA.out.below hbx BA.out.lt)
  replace BO := Lib.hid (BO.out.below hbx BO.out.lt)
  replace RP := Lib.hid (RP.out.below (hbx.mono B0.out.size))
  replace RT := Lib.hid (RT.out.below (hbx.mono B0.out.size))
  replace RQ := Lib.hid (RQ.out.below (hbx.mono B0.out.size))
  replace RU := Lib.hid (RU.out.below (hbx.mono B0.out.size))
  replace OW := Lib.hid (own_below OW.out hbx)
  replace FW := Lib.hid (FW.out.below hbx FW.out.lt)
  replace B0 := Lib.hid (B0.out.trans (hbx.mono B0.out.size))
  have OX := Lib.hid hoOX
  clear hoOX
  clear hbx
  simp only []
  have ba_0 : w4.cell? ⟨w.heap.size, 0, none⟩ = some (.slice A n c) := BA.out.cell 0
  have ba_1 : w4.cell? ⟨w.heap.size, 1, none⟩ = some (.int .i64 start) := BA.out.cell 1
  have ba_2 : w4.cell? ⟨w.heap.size, 2, none⟩ = some (.int .i64 caps) := BA.out.cell 2
  have ba_3 : w4.cell? ⟨w.heap.size, 3, none⟩ = some (.slice At nt ct) := BA.out.cell 3
  have ba_4 : w4.cell? ⟨w.heap.size, 4, none⟩ = some (.int .i64 at_) := BA.out.cell 4
  have ba_5 : w4.cell? ⟨w.heap.size, 5, none⟩ = some (.bool anch) := BA.out.cell 5
  have ba_z := BA.out.lt
  go_wp2_with fail
  clear ba_0 ba_1 ba_2 ba_3 ba_4 ba_5 ba_z
  have hxw5 : Below w4.heap.size w4 (w4.alloc (.cells #[.bool b2, .slice AOX l2.length cOX, .int .i64 wh2, .int .i64 st2] 30)) := (Below.refl _ _).alloc (Nat.le_refl _) (.cells #[.bool b2, .slice AOX l2.length cOX, .int .i64 wh2, .int .i64 st2] 30)
  have FX := Lib.hid (Blk.new w4 30 [.bool b2, .slice AOX l2.length cOX, .int .i64 wh2, .int .i64 st2])
  obtain ⟨FXa, hFXa⟩ : ∃ x, x = w4.heap.size := ⟨_, rfl⟩
  rw [← hFXa] at FX ⊢
  replace BA := Lib.hid (BA.out.below hxw5 BA.out.lt)
  replace BO := Lib.hid (BO.out.below hxw5 BO.out.lt)
  replace RP := Lib.hid (RP.out.below (hxw5.mono B0.out.size))
  replace RT := Lib.hid (RT.out.below (hxw5.mono B0.out.size))
  replace RQ := Lib.hid (RQ.out.below (hxw5.mono B0.out.size))
  replace RU := Lib.hid (RU.out.below (hxw5.mono B0.out.size))
  replace OW := Lib.hid (own_below OW.out hxw5)
  replace FW := Lib.hid (FW.out.below hxw5 FW.out.lt)
  replace OX := Lib.hid (own_below OX.out hxw5)
  replace B0 := Lib.hid (B0.out.trans (hxw5.mono B0.out.size))
  clear hxw5 hFXa
  generalize w4.alloc (.cells #[.bool b2, .slice AOX l2.length cOX, .int .i64 wh2, .int .i64 st2] 30) = w5 at *
  refine (lent_ex A n c L start caps w5 (RP.out.more B0.out.size) hn HNS.out).mono ?_
  rintro e w6 ⟨gP, L', rfl, hbx, hlp⟩
  replace BA := Lib.hid (BA.out.below hbx BA.out.lt)
  replace BO := Lib.hid (BO.out.below hbx BO.out.lt)
  replace RP := Lib.hid (RP.out.below (hbx.mono B0.out.size))
  replace RT := Lib.hid (RT.out.below (hbx.mono B0.out.size))
  replace RQ := Lib.hid (RQ.out.below (hbx.mono B0.out.size))
  replace RU := Lib.hid (RU.out.below (hbx.mono B0.out.size))
  replace OW := Lib.hid (own_below OW.out hbx)
  replace FW := Lib.hid (FW.out.below hbx FW.out.lt)
  replace OX := Lib.hid (own_below OX.out hbx)
  replace FX := Lib.hid (FX.out.below hbx FX.out.lt)
  replace B0 := Lib.hid (B0.out.trans (hbx.mono B0.out.size))
  have LP := Lib.hid hlp
  clear hlp
  clear hbx
  simp only []
  have ba_0 : w6.cell? ⟨w.heap.size, 0, none⟩ = some (.slice A n c) := BA.out.cell 0
  have ba_1 : w6.cell? ⟨w.heap.size, 1, none⟩ = some (.int .i64 start) := BA.out.cell 1
  have ba_2 : w6.cell? ⟨w.heap.size, 2, none⟩ = some (.int .i64 caps) := BA.out.cell 2
  have ba_3 : w6.cell? ⟨w.heap.size, 3, none⟩ = some (.slice At nt ct) := BA.out.cell 3
  have ba_4 : w6.cell? ⟨w.heap.size, 4, none⟩ = some (.int .i64 at_) := BA.out.cell 4
  have ba_5 : w6.cell? ⟨w.heap.size, 5, none⟩ = some (.bool anch) := BA.out.cell 5
  have ba_z := BA.out.lt
  go_wp2_with fail
  clear ba_0 ba_1 ba_2 ba_3 ba_4 ba_5 ba_z
  have hxw7 : Below w6.heap.size w6 (w6.alloc (.cells #[.slice (some ⟨gP, 0, none⟩) n (n + 1), .int .i64 start, .int .i64 caps] 24)) := (Below.refl _ _).alloc (Nat.le_refl _) (.cells #[.slice (some ⟨gP, 0, none⟩) n (n + 1), .int .i64 start, .int .i64 caps] 24)
  have BP := Lib.hid (Blk.new w6 24 [.slice (some ⟨gP, 0, none⟩) n (n + 1), .int .i64 start, .int .i64 caps])
  obtain ⟨BPa, hBPa⟩ : ∃ x, x = w6.heap.size := ⟨_, rfl⟩
  rw [← hBPa] at BP ⊢
  replace BA := Lib.hid (BA.out.below hxw7 BA.out.lt)
  replace BO := Lib.hid (BO.out.below hxw7 BO.out.lt)
  replace RP := Lib.hid (RP.out.below (hxw7.mono B0.out.size))
  replace RT := Lib.hid (RT.out.below (hxw7.mono B0.out.size))
  replace RQ := Lib.hid (RQ.out.below (hxw7.mono B0.out.size))
  replace RU := Lib.hid (RU.out.below (hxw7.mono B0.out.size))
  replace OW := Lib.hid (own_below OW.out hxw7)
  replace FW := Lib.hid (FW.out.below hxw7 FW.out.lt)
  replace OX := Lib.hid (own_below OX.out hxw7)
  replace FX := Lib.hid (FX.out.below hxw7 FX.out.lt)
  replace LP := Lib.hid (LP.out.below hxw7)
  replace B0 := Lib.hid (B0.out.trans (hxw7.mono B0.out.size))
  clear hxw7 hBPa
  generalize w6.alloc (.cells #[.slice (some ⟨gP, 0, none⟩) n (n + 1), .int .i64 start, .int .i64 caps] 24) = w7 at *
  refine (lentT_ex At nt ct w.heap.size t w7 RT.out B0.out.size hnt).mono ?_
  rintro e w8 ⟨gU, rfl, hbx, hgu, hbu⟩
  have hgu0 : w.heap.size ≤ gU := Nat.le_trans B0.out.size hgu
  replace BA := Lib.hid (BA.out.below hbx BA.out.lt)
  replace BO := Lib.hid (BO.out.below hbx BO.out.lt)
  replace RP := Lib.hid (RP.out.below (hbx.mono B0.out.size))
  replace RT := Lib.hid (RT.out.below (hbx.mono B0.out.size))
  replace RQ := Lib.hid (RQ.out.below (hbx.mono B0.out.size))
  replace RU := Lib.hid (RU.out.below (hbx.mono B0.out.size))
  replace OW := Lib.hid (own_below OW.out hbx)
  replace FW := Lib.hid (FW.out.below hbx FW.out.lt)
  replace OX := Lib.hid (own_below OX.out hbx)
  replace FX := Lib.hid (FX.out.below hbx FX.out.lt)
  replace LP := Lib.hid (LP.out.below hbx)
  replace BP := Lib.hid (BP.out.below hbx BP.out.lt)
  replace B0 := Lib.hid (B0.out.trans (hbx.mono B0.out.size))
  have BU := Lib.hid hbu
  have hguS : gU < w8.heap.size := hbu.lt
  have HGU := Lib.hid hgu0
  obtain ⟨base, hbase⟩ : ∃ base, base = w8.heap.size := ⟨_, rfl⟩
  have SZ := Lib.hid (show base ≤ w8.heap.size from by rw [hbase]; exact Nat.le_refl _)
  have HGB := Lib.hid (show gU < base from by rw [hbase]; exact hguS)
  have GR := Lib.hid (GRows.nil (T := 3) (B := base) (w := w8))
  clear hbu hgu hgu0 hguS hbase
  clear hbx
  simp only []
  have bp_0 : w8.cell? ⟨BPa, 0, none⟩ = some (.slice (some ⟨gP, 0, none⟩) n (n + 1)) := BP.out.cell 0
  have bp_1 : w8.cell? ⟨BPa, 1, none⟩ = some (.int .i64 start) := BP.out.cell 1
  have bp_2 : w8.cell? ⟨BPa, 2, none⟩ = some (.int .i64 caps) := BP.out.cell 2
  have bp_z := BP.out.lt
  have ba_0 : w8.cell? ⟨w.heap.size, 0, none⟩ = some (.slice A n c) := BA.out.cell 0
  have ba_1 : w8.cell? ⟨w.heap.size, 1, none⟩ = some (.int .i64 start) := BA.out.cell 1
  have ba_2 : w8.cell? ⟨w.heap.size, 2, none⟩ = some (.int .i64 caps) := BA.out.cell 2
  have ba_3 : w8.cell? ⟨w.heap.size, 3, none⟩ = some (.slice At nt ct) := BA.out.cell 3
  have ba_4 : w8.cell? ⟨w.heap.size, 4, none⟩ = some (.int .i64 at_) := BA.out.cell 4
  have ba_5 : w8.cell? ⟨w.heap.size, 5, none⟩ = some (.bool anch) := BA.out.cell 5
  have ba_z := BA.out.lt
  go_wp2_with fail
  clear bp_0 bp_1 bp_2 bp_z ba_0 ba_1 ba_2 ba_3 ba_4 ba_5 ba_z
  have hcon := run_any (some ⟨gP, 0, none⟩) (some ⟨gU, 0, none⟩) n (n + 1) nt (nt + 2) L' t start caps at_ anch w8 (LP.out.reads HLN.out hn (LentPr.small LP.out RP.out HNS.out)) (text_reads BU.out HTL.out hnt)
  rw [LP.out.len, ← HR1.out] at hcon
  refine (hcon.mono (fun _ _ h => G1.out _ _ _ _ h)).mono ?_
  clear hcon
  rintro e w9 ⟨AOA, cOA, rfl, hoOA, hbx⟩
  have gr2 := Lib.hid (GR.out.add SZ.out hbx (u := .slice AOA l1.length cOA) (xs := l1.map (Value.int .i64)) (by simpa using hoOA))
  replace BA := Lib.hid (BA.out.below hbx BA.out.lt)
  replace BO := Lib.hid (BO.out.below hbx BO.out.lt)
  replace RP := Lib.hid (RP.out.below (hbx.mono B0.out.size))
  replace RT := Lib.hid (RT.out.below (hbx.mono B0.out.size))
  replace RQ := Lib.hid (RQ.out.below (hbx.mono B0.out.size))
  replace RU := Lib.hid (RU.out.below (hbx.mono B0.out.size))
  replace OW := Lib.hid (own_below OW.out hbx)
  replace FW := Lib.hid (FW.out.below hbx FW.out.lt)
  replace OX := Lib.hid (own_below OX.out hbx)
  replace FX := Lib.hid (FX.out.below hbx FX.out.lt)
  replace LP := Lib.hid (LP.out.below hbx)
  replace BP := Lib.hid (BP.out.below hbx BP.out.lt)
  replace BU := Lib.hid (BU.out.below hbx BU.out.lt)
  replace SZ := Lib.hid (Nat.le_trans SZ.out hbx.size)
  replace GR := Lib.hid (GR.out.below hbx)
  replace B0 := Lib.hid (B0.out.trans (hbx.mono B0.out.size))
  have OA := Lib.hid hoOA
  replace GR := gr2
  clear hoOA gr2
  clear hbx
  simp only []
  have bo_0 : w9.cell? ⟨w.heap.size + 1, 0, none⟩ = some (.slice C m d) := BO.out.cell 0
  have bo_1 : w9.cell? ⟨w.heap.size + 1, 1, none⟩ = some (.int .i64 start2) := BO.out.cell 1
  have bo_2 : w9.cell? ⟨w.heap.size + 1, 2, none⟩ = some (.int .i64 caps2) := BO.out.cell 2
  have bo_3 : w9.cell? ⟨w.heap.size + 1, 3, none⟩ = some (.slice Ct mt dt) := BO.out.cell 3
  have bo_4 : w9.cell? ⟨w.heap.size + 1, 4, none⟩ = some (.int .i64 at2) := BO.out.cell 4
  have bo_5 : w9.cell? ⟨w.heap.size + 1, 5, none⟩ = some (.bool anch2) := BO.out.cell 5
  have bo_z := BO.out.lt
  go_wp2_with fail
  clear bo_0 bo_1 bo_2 bo_3 bo_4 bo_5 bo_z
  have hxw10 : Below w9.heap.size w9 (w9.alloc (.cells #[.bool b1, .slice AOA l1.length cOA, .int .i64 wh1, .int .i64 st1] 30)) := (Below.refl _ _).alloc (Nat.le_refl _) (.cells #[.bool b1, .slice AOA l1.length cOA, .int .i64 wh1, .int .i64 st1] 30)
  have FA := Lib.hid (Blk.new w9 30 [.bool b1, .slice AOA l1.length cOA, .int .i64 wh1, .int .i64 st1])
  obtain ⟨FAa, hFAa⟩ : ∃ x, x = w9.heap.size := ⟨_, rfl⟩
  rw [← hFAa] at FA ⊢
  replace BA := Lib.hid (BA.out.below hxw10 BA.out.lt)
  replace BO := Lib.hid (BO.out.below hxw10 BO.out.lt)
  replace RP := Lib.hid (RP.out.below (hxw10.mono B0.out.size))
  replace RT := Lib.hid (RT.out.below (hxw10.mono B0.out.size))
  replace RQ := Lib.hid (RQ.out.below (hxw10.mono B0.out.size))
  replace RU := Lib.hid (RU.out.below (hxw10.mono B0.out.size))
  replace OW := Lib.hid (own_below OW.out hxw10)
  replace FW := Lib.hid (FW.out.below hxw10 FW.out.lt)
  replace OX := Lib.hid (own_below OX.out hxw10)
  replace FX := Lib.hid (FX.out.below hxw10 FX.out.lt)
  replace LP := Lib.hid (LP.out.below hxw10)
  replace BP := Lib.hid (BP.out.below hxw10 BP.out.lt)
  replace BU := Lib.hid (BU.out.below hxw10 BU.out.lt)
  replace SZ := Lib.hid (Nat.le_trans SZ.out hxw10.size)
  replace GR := Lib.hid (GR.out.below hxw10)
  replace OA := Lib.hid (own_below OA.out hxw10)
  replace B0 := Lib.hid (B0.out.trans (hxw10.mono B0.out.size))
  clear hxw10 hFAa
  generalize w9.alloc (.cells #[.bool b1, .slice AOA l1.length cOA, .int .i64 wh1, .int .i64 st1] 30) = w10 at *
  have hcon := run_any C Ct m d mt dt L2 t2 start2 caps2 at2 anch2 w10 (RQ.out.more B0.out.size) (RU.out.more B0.out.size)
  rw [← HR2.out] at hcon
  refine (hcon.mono (fun _ _ h => G2.out _ _ _ _ h)).mono ?_
  clear hcon
  rintro e w11 ⟨AOB, cOB, rfl, hoOB, hbx⟩
  have gr2 := Lib.hid (GR.out.add SZ.out hbx (u := .slice AOB l2.length cOB) (xs := l2.map (Value.int .i64)) (by simpa using hoOB))
  replace BA := Lib.hid (BA.out.below hbx BA.out.lt)
  replace BO := Lib.hid (BO.out.below hbx BO.out.lt)
  replace RP := Lib.hid (RP.out.below (hbx.mono B0.out.size))
  replace RT := Lib.hid (RT.out.below (hbx.mono B0.out.size))
  replace RQ := Lib.hid (RQ.out.below (hbx.mono B0.out.size))
  replace RU := Lib.hid (RU.out.below (hbx.mono B0.out.size))
  replace OW := Lib.hid (own_below OW.out hbx)
  replace FW := Lib.hid (FW.out.below hbx FW.out.lt)
  replace OX := Lib.hid (own_below OX.out hbx)
  replace FX := Lib.hid (FX.out.below hbx FX.out.lt)
  replace LP := Lib.hid (LP.out.below hbx)
  replace BP := Lib.hid (BP.out.below hbx BP.out.lt)
  replace BU := Lib.hid (BU.out.below hbx BU.out.lt)
  replace SZ := Lib.hid (Nat.le_trans SZ.out hbx.size)
  replace GR := Lib.hid (GR.out.below hbx)
  replace OA := Lib.hid (own_below OA.out hbx)
  replace FA := Lib.hid (FA.out.below hbx FA.out.lt)
  replace B0 := Lib.hid (B0.out.trans (hbx.mono B0.out.size))
  have OB := Lib.hid hoOB
  replace GR := gr2
  clear hoOB gr2
  clear hbx
  simp only []
  have bp_0 : w11.cell? ⟨BPa, 0, none⟩ = some (.slice (some ⟨gP, 0, none⟩) n (n + 1)) := BP.out.cell 0
  have bp_1 : w11.cell? ⟨BPa, 1, none⟩ = some (.int .i64 start) := BP.out.cell 1
  have bp_2 : w11.cell? ⟨BPa, 2, none⟩ = some (.int .i64 caps) := BP.out.cell 2
  have bp_z := BP.out.lt
  have ba_0 : w11.cell? ⟨w.heap.size, 0, none⟩ = some (.slice A n c) := BA.out.cell 0
  have ba_1 : w11.cell? ⟨w.heap.size, 1, none⟩ = some (.int .i64 start) := BA.out.cell 1
  have ba_2 : w11.cell? ⟨w.heap.size, 2, none⟩ = some (.int .i64 caps) := BA.out.cell 2
  have ba_3 : w11.cell? ⟨w.heap.size, 3, none⟩ = some (.slice At nt ct) := BA.out.cell 3
  have ba_4 : w11.cell? ⟨w.heap.size, 4, none⟩ = some (.int .i64 at_) := BA.out.cell 4
  have ba_5 : w11.cell? ⟨w.heap.size, 5, none⟩ = some (.bool anch) := BA.out.cell 5
  have ba_z := BA.out.lt
  go_wp2_with fail
  clear bp_0 bp_1 bp_2 bp_z ba_0 ba_1 ba_2 ba_3 ba_4 ba_5 ba_z
  have hxw12 : Below w11.heap.size w11 (w11.alloc (.cells #[.bool b2, .slice AOB l2.length cOB, .int .i64 wh2, .int .i64 st2] 30)) := (Below.refl _ _).alloc (Nat.le_refl _) (.cells #[.bool b2, .slice AOB l2.length cOB, .int .i64 wh2, .int .i64 st2] 30)
  have FB := Lib.hid (Blk.new w11 30 [.bool b2, .slice AOB l2.length cOB, .int .i64 wh2, .int .i64 st2])
  obtain ⟨FBa, hFBa⟩ : ∃ x, x = w11.heap.size := ⟨_, rfl⟩
  rw [← hFBa] at FB ⊢
  replace BA := Lib.hid (BA.out.below hxw12 BA.out.lt)
  replace BO := Lib.hid (BO.out.below hxw12 BO.out.lt)
  replace RP := Lib.hid (RP.out.below (hxw12.mono B0.out.size))
  replace RT := Lib.hid (RT.out.below (hxw12.mono B0.out.size))
  replace RQ := Lib.hid (RQ.out.below (hxw12.mono B0.out.size))
  replace RU := Lib.hid (RU.out.below (hxw12.mono B0.out.size))
  replace OW := Lib.hid (own_below OW.out hxw12)
  replace FW := Lib.hid (FW.out.below hxw12 FW.out.lt)
  replace OX := Lib.hid (own_below OX.out hxw12)
  replace FX := Lib.hid (FX.out.below hxw12 FX.out.lt)
  replace LP := Lib.hid (LP.out.below hxw12)
  replace BP := Lib.hid (BP.out.below hxw12 BP.out.lt)
  replace BU := Lib.hid (BU.out.below hxw12 BU.out.lt)
  replace SZ := Lib.hid (Nat.le_trans SZ.out hxw12.size)
  replace GR := Lib.hid (GR.out.below hxw12)
  replace OA := Lib.hid (own_below OA.out hxw12)
  replace FA := Lib.hid (FA.out.below hxw12 FA.out.lt)
  replace OB := Lib.hid (own_below OB.out hxw12)
  replace B0 := Lib.hid (B0.out.trans (hxw12.mono B0.out.size))
  clear hxw12 hFBa
  generalize w11.alloc (.cells #[.bool b2, .slice AOB l2.length cOB, .int .i64 wh2, .int .i64 st2] 30) = w12 at *
  have hcon := run_any (some ⟨gP, 0, none⟩) (some ⟨gU, 0, none⟩) n (n + 1) nt (nt + 2) L' t start caps at_ anch w12 (LP.out.reads HLN.out hn (LentPr.small LP.out RP.out HNS.out)) (text_reads BU.out HTL.out hnt)
  rw [LP.out.len, ← HR1.out] at hcon
  refine (hcon.mono (fun _ _ h => G1.out _ _ _ _ h)).mono ?_
  clear hcon
  rintro e w13 ⟨AOC, cOC, rfl, hoOC, hbx⟩
  have gr2 := Lib.hid (GR.out.add SZ.out hbx (u := .slice AOC l1.length cOC) (xs := l1.map (Value.int .i64)) (by simpa using hoOC))
  replace BA := Lib.hid (BA.out.below hbx BA.out.lt)
  replace BO := Lib.hid (BO.out.below hbx BO.out.lt)
  replace RP := Lib.hid (RP.out.below (hbx.mono B0.out.size))
  replace RT := Lib.hid (RT.out.below (hbx.mono B0.out.size))
  replace RQ := Lib.hid (RQ.out.below (hbx.mono B0.out.size))
  replace RU := Lib.hid (RU.out.below (hbx.mono B0.out.size))
  replace OW := Lib.hid (own_below OW.out hbx)
  replace FW := Lib.hid (FW.out.below hbx FW.out.lt)
  replace OX := Lib.hid (own_below OX.out hbx)
  replace FX := Lib.hid (FX.out.below hbx FX.out.lt)
  replace LP := Lib.hid (LP.out.below hbx)
  replace BP := Lib.hid (BP.out.below hbx BP.out.lt)
  replace BU := Lib.hid (BU.out.below hbx BU.out.lt)
  replace SZ := Lib.hid (Nat.le_trans SZ.out hbx.size)
  replace GR := Lib.hid (GR.out.below hbx)
  replace OA := Lib.hid (own_below OA.out hbx)
  replace FA := Lib.hid (FA.out.below hbx FA.out.lt)
  replace OB := Lib.hid (own_below OB.out hbx)
  replace FB := Lib.hid (FB.out.below hbx FB.out.lt)
  replace B0 := Lib.hid (B0.out.trans (hbx.mono B0.out.size))
  have OC := Lib.hid hoOC
  replace GR := gr2
  clear hoOC gr2
  clear hbx
  simp only []
  have fa_0 : w13.cell? ⟨FAa, 0, none⟩ = some (.bool b1) := FA.out.cell 0
  have fa_1 : w13.cell? ⟨FAa, 1, none⟩ = some (.slice AOA l1.length cOA) := FA.out.cell 1
  have fa_2 : w13.cell? ⟨FAa, 2, none⟩ = some (.int .i64 wh1) := FA.out.cell 2
  have fa_3 : w13.cell? ⟨FAa, 3, none⟩ = some (.int .i64 st1) := FA.out.cell 3
  have fa_z := FA.out.lt
  have fw_0 : w13.cell? ⟨FWa, 0, none⟩ = some (.bool b1) := FW.out.cell 0
  have fw_1 : w13.cell? ⟨FWa, 1, none⟩ = some (.slice AOW l1.length cOW) := FW.out.cell 1
  have fw_2 : w13.cell? ⟨FWa, 2, none⟩ = some (.int .i64 wh1) := FW.out.cell 2
  have fw_3 : w13.cell? ⟨FWa, 3, none⟩ = some (.int .i64 st1) := FW.out.cell 3
  have fw_z := FW.out.lt
  go_wp2_with fail
  clear fa_0 fa_1 fa_2 fa_3 fa_z fw_0 fw_1 fw_2 fw_3 fw_z
  have hxw14 : Below w13.heap.size w13 (w13.alloc (.cells #[.bool b1, .slice AOC l1.length cOC, .int .i64 wh1, .int .i64 st1] 30)) := (Below.refl _ _).alloc (Nat.le_refl _) (.cells #[.bool b1, .slice AOC l1.length cOC, .int .i64 wh1, .int .i64 st1] 30)
  have FC := Lib.hid (Blk.new w13 30 [.bool b1, .slice AOC l1.length cOC, .int .i64 wh1, .int .i64 st1])
  obtain ⟨FCa, hFCa⟩ : ∃ x, x = w13.heap.size := ⟨_, rfl⟩
  rw [← hFCa] at FC ⊢
  replace BA := Lib.hid (BA.out.below hxw14 BA.out.lt)
  replace BO := Lib.hid (BO.out.below hxw14 BO.out.lt)
  replace RP := Lib.hid (RP.out.below (hxw14.mono B0.out.size))
  replace RT := Lib.hid (RT.out.below (hxw14.mono B0.out.size))
  replace RQ := Lib.hid (RQ.out.below (hxw14.mono B0.out.size))
  replace RU := Lib.hid (RU.out.below (hxw14.mono B0.out.size))
  replace OW := Lib.hid (own_below OW.out hxw14)
  replace FW := Lib.hid (FW.out.below hxw14 FW.out.lt)
  replace OX := Lib.hid (own_below OX.out hxw14)
  replace FX := Lib.hid (FX.out.below hxw14 FX.out.lt)
  replace LP := Lib.hid (LP.out.below hxw14)
  replace BP := Lib.hid (BP.out.below hxw14 BP.out.lt)
  replace BU := Lib.hid (BU.out.below hxw14 BU.out.lt)
  replace SZ := Lib.hid (Nat.le_trans SZ.out hxw14.size)
  replace GR := Lib.hid (GR.out.below hxw14)
  replace OA := Lib.hid (own_below OA.out hxw14)
  replace FA := Lib.hid (FA.out.below hxw14 FA.out.lt)
  replace OB := Lib.hid (own_below OB.out hxw14)
  replace FB := Lib.hid (FB.out.below hxw14 FB.out.lt)
  replace OC := Lib.hid (own_below OC.out hxw14)
  replace B0 := Lib.hid (B0.out.trans (hxw14.mono B0.out.size))
  clear hxw14 hFCa
  generalize w13.alloc (.cells #[.bool b1, .slice AOC l1.length cOC, .int .i64 wh1, .int .i64 st1] 30) = w14 at *
  refine (sameF_any b1 wh1 st1 l1 AOA AOW l1.length cOA cOW w14 (Reads.of_own OA.out) (Reads.of_own OW.out)).mono ?_
  rintro e w15 ⟨rfl, hbx⟩
  replace BA := Lib.hid (BA.out.below hbx BA.out.lt)
  replace BO := Lib.hid (BO.out.below hbx BO.out.lt)
  replace RP := Lib.hid (RP.out.below (hbx.mono B0.out.size))
  replace RT := Lib.hid (RT.out.below (hbx.mono B0.out.size))
  replace RQ := Lib.hid (RQ.out.below (hbx.mono B0.out.size))
  replace RU := Lib.hid (RU.out.below (hbx.mono B0.out.size))
  replace OW := Lib.hid (own_below OW.out hbx)
  replace FW := Lib.hid (FW.out.below hbx FW.out.lt)
  replace OX := Lib.hid (own_below OX.out hbx)
  replace FX := Lib.hid (FX.out.below hbx FX.out.lt)
  replace LP := Lib.hid (LP.out.below hbx)
  replace BP := Lib.hid (BP.out.below hbx BP.out.lt)
  replace BU := Lib.hid (BU.out.below hbx BU.out.lt)
  replace SZ := Lib.hid (Nat.le_trans SZ.out hbx.size)
  replace GR := Lib.hid (GR.out.below hbx)
  replace OA := Lib.hid (own_below OA.out hbx)
  replace FA := Lib.hid (FA.out.below hbx FA.out.lt)
  replace OB := Lib.hid (own_below OB.out hbx)
  replace FB := Lib.hid (FB.out.below hbx FB.out.lt)
  replace OC := Lib.hid (own_below OC.out hbx)
  replace FC := Lib.hid (FC.out.below hbx FC.out.lt)
  replace B0 := Lib.hid (B0.out.trans (hbx.mono B0.out.size))
  clear hbx
  simp only []
  have fb_0 : w15.cell? ⟨FBa, 0, none⟩ = some (.bool b2) := FB.out.cell 0
  have fb_1 : w15.cell? ⟨FBa, 1, none⟩ = some (.slice AOB l2.length cOB) := FB.out.cell 1
  have fb_2 : w15.cell? ⟨FBa, 2, none⟩ = some (.int .i64 wh2) := FB.out.cell 2
  have fb_3 : w15.cell? ⟨FBa, 3, none⟩ = some (.int .i64 st2) := FB.out.cell 3
  have fb_z := FB.out.lt
  have fx_0 : w15.cell? ⟨FXa, 0, none⟩ = some (.bool b2) := FX.out.cell 0
  have fx_1 : w15.cell? ⟨FXa, 1, none⟩ = some (.slice AOX l2.length cOX) := FX.out.cell 1
  have fx_2 : w15.cell? ⟨FXa, 2, none⟩ = some (.int .i64 wh2) := FX.out.cell 2
  have fx_3 : w15.cell? ⟨FXa, 3, none⟩ = some (.int .i64 st2) := FX.out.cell 3
  have fx_z := FX.out.lt
  go_wp2_with fail
  clear fb_0 fb_1 fb_2 fb_3 fb_z fx_0 fx_1 fx_2 fx_3 fx_z
  refine (sameF_any b2 wh2 st2 l2 AOB AOX l2.length cOB cOX w15 (Reads.of_own OB.out) (Reads.of_own OX.out)).mono ?_
  rintro e w16 ⟨rfl, hbx⟩
  replace BA := Lib.hid (BA.out.below hbx BA.out.lt)
  replace BO := Lib.hid (BO.out.below hbx BO.out.lt)
  replace RP := Lib.hid (RP.out.below (hbx.mono B0.out.size))
  replace RT := Lib.hid (RT.out.below (hbx.mono B0.out.size))
  replace RQ := Lib.hid (RQ.out.below (hbx.mono B0.out.size))
  replace RU := Lib.hid (RU.out.below (hbx.mono B0.out.size))
  replace OW := Lib.hid (own_below OW.out hbx)
  replace FW := Lib.hid (FW.out.below hbx FW.out.lt)
  replace OX := Lib.hid (own_below OX.out hbx)
  replace FX := Lib.hid (FX.out.below hbx FX.out.lt)
  replace LP := Lib.hid (LP.out.below hbx)
  replace BP := Lib.hid (BP.out.below hbx BP.out.lt)
  replace BU := Lib.hid (BU.out.below hbx BU.out.lt)
  replace SZ := Lib.hid (Nat.le_trans SZ.out hbx.size)
  replace GR := Lib.hid (GR.out.below hbx)
  replace OA := Lib.hid (own_below OA.out hbx)
  replace FA := Lib.hid (FA.out.below hbx FA.out.lt)
  replace OB := Lib.hid (own_below OB.out hbx)
  replace FB := Lib.hid (FB.out.below hbx FB.out.lt)
  replace OC := Lib.hid (own_below OC.out hbx)
  replace FC := Lib.hid (FC.out.below hbx FC.out.lt)
  replace B0 := Lib.hid (B0.out.trans (hbx.mono B0.out.size))
  clear hbx
  simp only []
  have fc_0 : w16.cell? ⟨FCa, 0, none⟩ = some (.bool b1) := FC.out.cell 0
  have fc_1 : w16.cell? ⟨FCa, 1, none⟩ = some (.slice AOC l1.length cOC) := FC.out.cell 1
  have fc_2 : w16.cell? ⟨FCa, 2, none⟩ = some (.int .i64 wh1) := FC.out.cell 2
  have fc_3 : w16.cell? ⟨FCa, 3, none⟩ = some (.int .i64 st1) := FC.out.cell 3
  have fc_z := FC.out.lt
  have fw_0 : w16.cell? ⟨FWa, 0, none⟩ = some (.bool b1) := FW.out.cell 0
  have fw_1 : w16.cell? ⟨FWa, 1, none⟩ = some (.slice AOW l1.length cOW) := FW.out.cell 1
  have fw_2 : w16.cell? ⟨FWa, 2, none⟩ = some (.int .i64 wh1) := FW.out.cell 2
  have fw_3 : w16.cell? ⟨FWa, 3, none⟩ = some (.int .i64 st1) := FW.out.cell 3
  have fw_z := FW.out.lt
  go_wp2_with fail
  clear fc_0 fc_1 fc_2 fc_3 fc_z fw_0 fw_1 fw_2 fw_3 fw_z
  refine (sameF_any b1 wh1 st1 l1 AOC AOW l1.length cOC cOW w16 (Reads.of_own OC.out) (Reads.of_own OW.out)).mono ?_
  rintro e w17 ⟨rfl, hbx⟩
  replace BA := Lib.hid (BA.out.below hbx BA.out.lt)
  replace BO := Lib.hid (BO.out.below hbx BO.out.lt)
  replace RP := Lib.hid (RP.out.below (hbx.mono B0.out.size))
  replace RT := Lib.hid (RT.out.below (hbx.mono B0.out.size))
  replace RQ := Lib.hid (RQ.out.below (hbx.mono B0.out.size))
  replace RU := Lib.hid (RU.out.below (hbx.mono B0.out.size))
  replace OW := Lib.hid (own_below OW.out hbx)
  replace FW := Lib.hid (FW.out.below hbx FW.out.lt)
  replace OX := Lib.hid (own_below OX.out hbx)
  replace FX := Lib.hid (FX.out.below hbx FX.out.lt)
  replace LP := Lib.hid (LP.out.below hbx)
  replace BP := Lib.hid (BP.out.below hbx BP.out.lt)
  replace BU := Lib.hid (BU.out.below hbx BU.out.lt)
  replace SZ := Lib.hid (Nat.le_trans SZ.out hbx.size)
  replace GR := Lib.hid (GR.out.below hbx)
  replace OA := Lib.hid (own_below OA.out hbx)
  replace FA := Lib.hid (FA.out.below hbx FA.out.lt)
  replace OB := Lib.hid (own_below OB.out hbx)
  replace FB := Lib.hid (FB.out.below hbx FB.out.lt)
  replace OC := Lib.hid (own_below OC.out hbx)
  replace FC := Lib.hid (FC.out.below hbx FC.out.lt)
  replace B0 := Lib.hid (B0.out.trans (hbx.mono B0.out.size))
  clear hbx
  simp only []
  have bp_0 : w17.cell? ⟨BPa, 0, none⟩ = some (.slice (some ⟨gP, 0, none⟩) n (n + 1)) := BP.out.cell 0
  have bp_1 : w17.cell? ⟨BPa, 1, none⟩ = some (.int .i64 start) := BP.out.cell 1
  have bp_2 : w17.cell? ⟨BPa, 2, none⟩ = some (.int .i64 caps) := BP.out.cell 2
  have bp_z := BP.out.lt
  have ba_0 : w17.cell? ⟨w.heap.size, 0, none⟩ = some (.slice A n c) := BA.out.cell 0
  have ba_1 : w17.cell? ⟨w.heap.size, 1, none⟩ = some (.int .i64 start) := BA.out.cell 1
  have ba_2 : w17.cell? ⟨w.heap.size, 2, none⟩ = some (.int .i64 caps) := BA.out.cell 2
  have ba_3 : w17.cell? ⟨w.heap.size, 3, none⟩ = some (.slice At nt ct) := BA.out.cell 3
  have ba_4 : w17.cell? ⟨w.heap.size, 4, none⟩ = some (.int .i64 at_) := BA.out.cell 4
  have ba_5 : w17.cell? ⟨w.heap.size, 5, none⟩ = some (.bool anch) := BA.out.cell 5
  have ba_z := BA.out.lt
  go_wp2_with fail
  clear bp_0 bp_1 bp_2 bp_z ba_0 ba_1 ba_2 ba_3 ba_4 ba_5 ba_z
  refine (keptP_any A n c gP _ L L' start caps w17 (RP.out.more B0.out.size) LP.out hn (LentPr.small LP.out RP.out HNS.out)).mono ?_
  rintro e w18 ⟨rfl, hbx⟩
  replace BA := Lib.hid (BA.out.below hbx BA.out.lt)
  replace BO := Lib.hid (BO.out.below hbx BO.out.lt)
  replace RP := Lib.hid (RP.out.below (hbx.mono B0.out.size))
  replace RT := Lib.hid (RT.out.below (hbx.mono B0.out.size))
  replace RQ := Lib.hid (RQ.out.below (hbx.mono B0.out.size))
  replace RU := Lib.hid (RU.out.below (hbx.mono B0.out.size))
  replace OW := Lib.hid (own_below OW.out hbx)
  replace FW := Lib.hid (FW.out.below hbx FW.out.lt)
  replace OX := Lib.hid (own_below OX.out hbx)
  replace FX := Lib.hid (FX.out.below hbx FX.out.lt)
  replace LP := Lib.hid (LP.out.below hbx)
  replace BP := Lib.hid (BP.out.below hbx BP.out.lt)
  replace BU := Lib.hid (BU.out.below hbx BU.out.lt)
  replace SZ := Lib.hid (Nat.le_trans SZ.out hbx.size)
  replace GR := Lib.hid (GR.out.below hbx)
  replace OA := Lib.hid (own_below OA.out hbx)
  replace FA := Lib.hid (FA.out.below hbx FA.out.lt)
  replace OB := Lib.hid (own_below OB.out hbx)
  replace FB := Lib.hid (FB.out.below hbx FB.out.lt)
  replace OC := Lib.hid (own_below OC.out hbx)
  replace FC := Lib.hid (FC.out.below hbx FC.out.lt)
  replace B0 := Lib.hid (B0.out.trans (hbx.mono B0.out.size))
  clear hbx
  simp only []
  have ba_0 : w18.cell? ⟨w.heap.size, 0, none⟩ = some (.slice A n c) := BA.out.cell 0
  have ba_1 : w18.cell? ⟨w.heap.size, 1, none⟩ = some (.int .i64 start) := BA.out.cell 1
  have ba_2 : w18.cell? ⟨w.heap.size, 2, none⟩ = some (.int .i64 caps) := BA.out.cell 2
  have ba_3 : w18.cell? ⟨w.heap.size, 3, none⟩ = some (.slice At nt ct) := BA.out.cell 3
  have ba_4 : w18.cell? ⟨w.heap.size, 4, none⟩ = some (.int .i64 at_) := BA.out.cell 4
  have ba_5 : w18.cell? ⟨w.heap.size, 5, none⟩ = some (.bool anch) := BA.out.cell 5
  have ba_z := BA.out.lt
  go_wp2_with fail
  clear ba_0 ba_1 ba_2 ba_3 ba_4 ba_5 ba_z
  refine (keptT_any At nt ct gU t w18 (RT.out.more B0.out.size) BU.out hnt).mono ?_
  rintro e w19 ⟨rfl, hbx⟩
  replace BA := Lib.hid (BA.out.below hbx BA.out.lt)
  replace BO := Lib.hid (BO.out.below hbx BO.out.lt)
  replace RP := Lib.hid (RP.out.below (hbx.mono B0.out.size))
  replace RT := Lib.hid (RT.out.below (hbx.mono B0.out.size))
  replace RQ := Lib.hid (RQ.out.below (hbx.mono B0.out.size))
  replace RU := Lib.hid (RU.out.below (hbx.mono B0.out.size))
  replace OW := Lib.hid (own_below OW.out hbx)
  replace FW := Lib.hid (FW.out.below hbx FW.out.lt)
  replace OX := Lib.hid (own_below OX.out hbx)
  replace FX := Lib.hid (FX.out.below hbx FX.out.lt)
  replace LP := Lib.hid (LP.out.below hbx)
  replace BP := Lib.hid (BP.out.below hbx BP.out.lt)
  replace BU := Lib.hid (BU.out.below hbx BU.out.lt)
  replace SZ := Lib.hid (Nat.le_trans SZ.out hbx.size)
  replace GR := Lib.hid (GR.out.below hbx)
  replace OA := Lib.hid (own_below OA.out hbx)
  replace FA := Lib.hid (FA.out.below hbx FA.out.lt)
  replace OB := Lib.hid (own_below OB.out hbx)
  replace FB := Lib.hid (FB.out.below hbx FB.out.lt)
  replace OC := Lib.hid (own_below OC.out hbx)
  replace FC := Lib.hid (FC.out.below hbx FC.out.lt)
  replace B0 := Lib.hid (B0.out.trans (hbx.mono B0.out.size))
  clear hbx
  simp only []
  have q1 : ((er1 : Int) != er1) = false := by simp
  have q2 : ((er2 : Int) != er2) = false := by simp
  go_wp2_with fail
  go_loopw [23] (fun q wr => ∃ i : Nat, i ≤ nt ∧ q = .int .i64 i ∧ Kept w19 wr [gU] ∧ Blk wr gU 3 ((((t.take i).map flip) ++ (t.drop i ++ [-71, -72])).map (Value.int .i64))) (fun q _ => nt - (intOf q).toNat)
  case atStart => exact ⟨0, Nat.zero_le _, rfl, Kept.refl, by simpa using BU.out⟩
  case round =>
    obtain ⟨i, hi, rfl, hk, hu⟩ := hrel
    by_cases hlt : i < nt
    · have hlt2 : (i : Int) < (nt : Int) := by omega
      have htl := HTL.out
      obtain ⟨x, hx⟩ : ∃ x, t[i]? = some x := ⟨_, List.getElem?_eq_getElem (by omega)⟩
      have hdr : t.drop i = x :: t.drop (i + 1) := by
        obtain ⟨h1, h2⟩ := List.getElem?_eq_some_iff.1 hx
        rw [← h2]; exact List.drop_eq_getElem_cons h1
      have hll : ((t.take i).map flip).length = i := by simp; omega
      have u1 : wr.cell? ⟨gU, i, none⟩ = some (.int .i64 x) := by
        rw [hu.cell, List.getElem?_map, List.getElem?_append_right (by omega), hll, Nat.sub_self, hdr]; rfl
      have u2 := hu.frozen i
      have u3 := hu.lt
      have HUU := Lib.hid hu
      have HK := Lib.hid hk
      have HST := Lib.hid (show ∀ y, y = flip x → Blk (wr.setCell ⟨gU, i, none⟩ (.int .i64 y)) gU 3 ((((t.take (i + 1)).map flip) ++ (t.drop (i + 1) ++ [-71, -72])).map (Value.int .i64)) ∧ Kept w19 (wr.setCell ⟨gU, i, none⟩ (.int .i64 y)) [gU] from fun y hy => by
        have h1 := hu.set_ i (.int .i64 y)
        rw [← List.map_set, List.set_append_right _ _ (by omega), hll, Nat.sub_self, hdr] at h1
        refine ⟨?_, (hk.trans (Kept.setCell _ _)).more (by intro k hk; simp at hk ⊢; exact .inl hk)⟩
        rw [List.take_add_one, hx]
        simpa [hy] using h1)
      clear hu hk hx hdr hll htl
      by_cases hx : x = 97
      · have hfl : flip x = 98 := by unfold flip; rw [if_pos hx]
        have HFL := Lib.hid hfl
        subst hx
        clear hfl
        go_wp2_with fail
        go_roundw
        case rel => exact ⟨i + 1, hlt, by go_num, (HST.out 98 HFL.out.symm).2, (HST.out 98 HFL.out.symm).1⟩
        case measure => simp [intOf]; omega
      · have hfl : flip x = 97 := by unfold flip; rw [if_neg hx]
        have HFL := Lib.hid hfl
        have hx2 : (x == 97) = false := by simpa using hx
        have HX := Lib.hid hx
        clear hfl hx
        go_wp2_with fail
        go_roundw
        case rel => exact ⟨i + 1, hlt, by go_num, (HST.out 97 HFL.out.symm).2, (HST.out 97 HFL.out.symm).1⟩
        case measure => simp [intOf]; omega
    · obtain rfl : nt = i := by omega
      have hbl : Below w.heap.size w19 wr := hk.below (by intro g hg; rw [List.mem_singleton] at hg; rw [hg]; exact HGU.out) B0.out.size
      clear BO
      clear RT
      clear RQ
      clear RU
      clear OW
      clear FW
      clear OX
      clear FX
      clear OA
      clear OB
      clear OC
      replace BA := Lib.hid (BA.out.kept hk (by rw [List.mem_singleton]; exact BA.out.ne_ BU.out (by decide)))
      replace RP := Lib.hid (RP.out.below hbl)
      replace LP := Lib.hid (LentPr.kept LP.out hk BU.out)
      replace BP := Lib.hid (BP.out.kept hk (by rw [List.mem_singleton]; exact BP.out.ne_ BU.out (by decide)))
      replace SZ := Lib.hid (Nat.le_trans SZ.out hk.size)
      replace GR := Lib.hid (GRows.keptLow GR.out hk HGB.out)
      replace FA := Lib.hid (FA.out.kept hk (by rw [List.mem_singleton]; exact FA.out.ne_ BU.out (by decide)))
      replace FB := Lib.hid (FB.out.kept hk (by rw [List.mem_singleton]; exact FB.out.ne_ BU.out (by decide)))
      replace FC := Lib.hid (FC.out.kept hk (by rw [List.mem_singleton]; exact FC.out.ne_ BU.out (by decide)))
      replace B0 := Lib.hid (B0.out.trans hbl)
      have hfull : ((t.take nt).map flip) ++ (t.drop nt ++ [-71, -72]) = t.map flip ++ [-71, -72] := by
        rw [List.take_of_length_le (by have := HTL.out; omega), List.drop_of_length_le (by have := HTL.out; omega)]; rfl
      rw [hfull] at hu
      replace BU := Lib.hid hu
      have HTF := Lib.hid (show (t.map flip).length = nt from by rw [List.length_map]; exact HTL.out)
      clear hu hk hbl hfull
      have ba_0 : wr.cell? ⟨w.heap.size, 0, none⟩ = some (.slice A n c) := BA.out.cell 0
      have ba_1 : wr.cell? ⟨w.heap.size, 1, none⟩ = some (.int .i64 start) := BA.out.cell 1
      have ba_2 : wr.cell? ⟨w.heap.size, 2, none⟩ = some (.int .i64 caps) := BA.out.cell 2
      have ba_3 : wr.cell? ⟨w.heap.size, 3, none⟩ = some (.slice At nt ct) := BA.out.cell 3
      have ba_4 : wr.cell? ⟨w.heap.size, 4, none⟩ = some (.int .i64 at_) := BA.out.cell 4
      have ba_5 : wr.cell? ⟨w.heap.size, 5, none⟩ = some (.bool anch) := BA.out.cell 5
      have ba_z := BA.out.lt
      go_wp2_with fail
      clear ba_0 ba_1 ba_2 ba_3 ba_4 ba_5 ba_z
      have hcon := refRun_any A (some ⟨gU, 0, none⟩) n c nt (nt + 2) L (t.map flip) start caps at_ anch wr (RP.out.more B0.out.size) (text_reads BU.out HTF.out hnt)
      rw [← HR3.out] at hcon
      refine (hcon.mono (fun _ _ h => G3.out _ _ _ _ h)).mono ?_
      clear hcon
      rintro e w20 ⟨AOY, cOY, rfl, hoOY, hbx⟩
      replace BA := Lib.hid (BA.out.below hbx BA.out.lt)
      replace RP := Lib.hid (RP.out.below (hbx.mono B0.out.size))
      replace LP := Lib.hid (LP.out.below hbx)
      replace BP := Lib.hid (BP.out.below hbx BP.out.lt)
      replace BU := Lib.hid (BU.out.below hbx BU.out.lt)
      replace SZ := Lib.hid (Nat.le_trans SZ.out hbx.size)
      replace GR := Lib.hid (GR.out.below hbx)
      replace FA := Lib.hid (FA.out.below hbx FA.out.lt)
      replace FB := Lib.hid (FB.out.below hbx FB.out.lt)
      replace FC := Lib.hid (FC.out.below hbx FC.out.lt)
      replace B0 := Lib.hid (B0.out.trans (hbx.mono B0.out.size))
      have OY := Lib.hid hoOY
      clear hoOY
      clear hbx
      simp only []
      have bp_0 : w20.cell? ⟨BPa, 0, none⟩ = some (.slice (some ⟨gP, 0, none⟩) n (n + 1)) := BP.out.cell 0
      have bp_1 : w20.cell? ⟨BPa, 1, none⟩ = some (.int .i64 start) := BP.out.cell 1
      have bp_2 : w20.cell? ⟨BPa, 2, none⟩ = some (.int .i64 caps) := BP.out.cell 2
      have bp_z := BP.out.lt
      have ba_0 : w20.cell? ⟨w.heap.size, 0, none⟩ = some (.slice A n c) := BA.out.cell 0
      have ba_1 : w20.cell? ⟨w.heap.size, 1, none⟩ = some (.int .i64 start) := BA.out.cell 1
      have ba_2 : w20.cell? ⟨w.heap.size, 2, none⟩ = some (.int .i64 caps) := BA.out.cell 2
      have ba_3 : w20.cell? ⟨w.heap.size, 3, none⟩ = some (.slice At nt ct) := BA.out.cell 3
      have ba_4 : w20.cell? ⟨w.heap.size, 4, none⟩ = some (.int .i64 at_) := BA.out.cell 4
      have ba_5 : w20.cell? ⟨w.heap.size, 5, none⟩ = some (.bool anch) := BA.out.cell 5
      have ba_z := BA.out.lt
      go_wp2_with fail
      clear bp_0 bp_1 bp_2 bp_z ba_0 ba_1 ba_2 ba_3 ba_4 ba_5 ba_z
      have hxw21 : Below w20.heap.size w20 (w20.alloc (.cells #[.bool b3, .slice AOY l3.length cOY, .int .i64 wh3, .int .i64 st3] 30)) := (Below.refl _ _).alloc (Nat.le_refl _) (.cells #[.bool b3, .slice AOY l3.length cOY, .int .i64 wh3, .int .i64 st3] 30)
      have FY := Lib.hid (Blk.new w20 30 [.bool b3, .slice AOY l3.length cOY, .int .i64 wh3, .int .i64 st3])
      obtain ⟨FYa, hFYa⟩ : ∃ x, x = w20.heap.size := ⟨_, rfl⟩
      rw [← hFYa] at FY ⊢
      replace BA := Lib.hid (BA.out.below hxw21 BA.out.lt)
      replace RP := Lib.hid (RP.out.below (hxw21.mono B0.out.size))
      replace LP := Lib.hid (LP.out.below hxw21)
      replace BP := Lib.hid (BP.out.below hxw21 BP.out.lt)
      replace BU := Lib.hid (BU.out.below hxw21 BU.out.lt)
      replace SZ := Lib.hid (Nat.le_trans SZ.out hxw21.size)
      replace GR := Lib.hid (GR.out.below hxw21)
      replace FA := Lib.hid (FA.out.below hxw21 FA.out.lt)
      replace FB := Lib.hid (FB.out.below hxw21 FB.out.lt)
      replace FC := Lib.hid (FC.out.below hxw21 FC.out.lt)
      replace OY := Lib.hid (own_below OY.out hxw21)
      replace B0 := Lib.hid (B0.out.trans (hxw21.mono B0.out.size))
      clear hxw21 hFYa
      generalize w20.alloc (.cells #[.bool b3, .slice AOY l3.length cOY, .int .i64 wh3, .int .i64 st3] 30) = w21 at *
      have hcon := run_any (some ⟨gP, 0, none⟩) (some ⟨gU, 0, none⟩) n (n + 1) nt (nt + 2) L' (t.map flip) start caps at_ anch w21 (LP.out.reads HLN.out hn (LentPr.small LP.out RP.out HNS.out)) (text_reads BU.out HTF.out hnt)
      rw [LP.out.len, ← HR3.out] at hcon
      refine (hcon.mono (fun _ _ h => G3.out _ _ _ _ h)).mono ?_
      clear hcon
      rintro e w22 ⟨AOD, cOD, rfl, hoOD, hbx⟩
      have gr2 := Lib.hid (GR.out.add SZ.out hbx (u := .slice AOD l3.length cOD) (xs := l3.map (Value.int .i64)) (by simpa using hoOD))
      replace BA := Lib.hid (BA.out.below hbx BA.out.lt)
      replace RP := Lib.hid (RP.out.below (hbx.mono B0.out.size))
      replace LP := Lib.hid (LP.out.below hbx)
      replace BP := Lib.hid (BP.out.below hbx BP.out.lt)
      replace BU := Lib.hid (BU.out.below hbx BU.out.lt)
      replace SZ := Lib.hid (Nat.le_trans SZ.out hbx.size)
      replace GR := Lib.hid (GR.out.below hbx)
      replace FA := Lib.hid (FA.out.below hbx FA.out.lt)
      replace FB := Lib.hid (FB.out.below hbx FB.out.lt)
      replace FC := Lib.hid (FC.out.below hbx FC.out.lt)
      replace OY := Lib.hid (own_below OY.out hbx)
      replace FY := Lib.hid (FY.out.below hbx FY.out.lt)
      replace B0 := Lib.hid (B0.out.trans (hbx.mono B0.out.size))
      have OD := Lib.hid hoOD
      replace GR := gr2
      clear hoOD gr2
      clear hbx
      simp only []
      have fy_0 : w22.cell? ⟨FYa, 0, none⟩ = some (.bool b3) := FY.out.cell 0
      have fy_1 : w22.cell? ⟨FYa, 1, none⟩ = some (.slice AOY l3.length cOY) := FY.out.cell 1
      have fy_2 : w22.cell? ⟨FYa, 2, none⟩ = some (.int .i64 wh3) := FY.out.cell 2
      have fy_3 : w22.cell? ⟨FYa, 3, none⟩ = some (.int .i64 st3) := FY.out.cell 3
      have fy_z := FY.out.lt
      go_wp2_with fail
      clear fy_0 fy_1 fy_2 fy_3 fy_z
      have hxw23 : Below w22.heap.size w22 (w22.alloc (.cells #[.bool b3, .slice AOD l3.length cOD, .int .i64 wh3, .int .i64 st3] 30)) := (Below.refl _ _).alloc (Nat.le_refl _) (.cells #[.bool b3, .slice AOD l3.length cOD, .int .i64 wh3, .int .i64 st3] 30)
      have FD := Lib.hid (Blk.new w22 30 [.bool b3, .slice AOD l3.length cOD, .int .i64 wh3, .int .i64 st3])
      obtain ⟨FDa, hFDa⟩ : ∃ x, x = w22.heap.size := ⟨_, rfl⟩
      rw [← hFDa] at FD ⊢
      replace BA := Lib.hid (BA.out.below hxw23 BA.out.lt)
      replace RP := Lib.hid (RP.out.below (hxw23.mono B0.out.size))
      replace LP := Lib.hid (LP.out.below hxw23)
      replace BP := Lib.hid (BP.out.below hxw23 BP.out.lt)
      replace BU := Lib.hid (BU.out.below hxw23 BU.out.lt)
      replace SZ := Lib.hid (Nat.le_trans SZ.out hxw23.size)
      replace GR := Lib.hid (GR.out.below hxw23)
      replace FA := Lib.hid (FA.out.below hxw23 FA.out.lt)
      replace FB := Lib.hid (FB.out.below hxw23 FB.out.lt)
      replace FC := Lib.hid (FC.out.below hxw23 FC.out.lt)
      replace OY := Lib.hid (own_below OY.out hxw23)
      replace FY := Lib.hid (FY.out.below hxw23 FY.out.lt)
      replace OD := Lib.hid (own_below OD.out hxw23)
      replace B0 := Lib.hid (B0.out.trans (hxw23.mono B0.out.size))
      clear hxw23 hFDa
      generalize w22.alloc (.cells #[.bool b3, .slice AOD l3.length cOD, .int .i64 wh3, .int .i64 st3] 30) = w23 at *
      refine (sameF_any b3 wh3 st3 l3 AOD AOY l3.length cOD cOY w23 (Reads.of_own OD.out) (Reads.of_own OY.out)).mono ?_
      rintro e w24 ⟨rfl, hbx⟩
      replace BA := Lib.hid (BA.out.below hbx BA.out.lt)
      replace RP := Lib.hid (RP.out.below (hbx.mono B0.out.size))
      replace LP := Lib.hid (LP.out.below hbx)
      replace BP := Lib.hid (BP.out.below hbx BP.out.lt)
      replace BU := Lib.hid (BU.out.below hbx BU.out.lt)
      replace SZ := Lib.hid (Nat.le_trans SZ.out hbx.size)
      replace GR := Lib.hid (GR.out.below hbx)
      replace FA := Lib.hid (FA.out.below hbx FA.out.lt)
      replace FB := Lib.hid (FB.out.below hbx FB.out.lt)
      replace FC := Lib.hid (FC.out.below hbx FC.out.lt)
      replace OY := Lib.hid (own_below OY.out hbx)
      replace FY := Lib.hid (FY.out.below hbx FY.out.lt)
      replace OD := Lib.hid (own_below OD.out hbx)
      replace FD := Lib.hid (FD.out.below hbx FD.out.lt)
      replace B0 := Lib.hid (B0.out.trans (hbx.mono B0.out.size))
      clear hbx
      simp only []
      have fa_0 : w24.cell? ⟨FAa, 0, none⟩ = some (.bool b1) := FA.out.cell 0
      have fa_1 : w24.cell? ⟨FAa, 1, none⟩ = some (.slice AOA l1.length cOA) := FA.out.cell 1
      have fa_2 : w24.cell? ⟨FAa, 2, none⟩ = some (.int .i64 wh1) := FA.out.cell 2
      have fa_3 : w24.cell? ⟨FAa, 3, none⟩ = some (.int .i64 st1) := FA.out.cell 3
      have fa_z := FA.out.lt
      have fb_0 : w24.cell? ⟨FBa, 0, none⟩ = some (.bool b2) := FB.out.cell 0
      have fb_1 : w24.cell? ⟨FBa, 1, none⟩ = some (.slice AOB l2.length cOB) := FB.out.cell 1
      have fb_2 : w24.cell? ⟨FBa, 2, none⟩ = some (.int .i64 wh2) := FB.out.cell 2
      have fb_3 : w24.cell? ⟨FBa, 3, none⟩ = some (.int .i64 st2) := FB.out.cell 3
      have fb_z := FB.out.lt
      have fc_0 : w24.cell? ⟨FCa, 0, none⟩ = some (.bool b1) := FC.out.cell 0
      have fc_1 : w24.cell? ⟨FCa, 1, none⟩ = some (.slice AOC l1.length cOC) := FC.out.cell 1
      have fc_2 : w24.cell? ⟨FCa, 2, none⟩ = some (.int .i64 wh1) := FC.out.cell 2
      have fc_3 : w24.cell? ⟨FCa, 3, none⟩ = some (.int .i64 st1) := FC.out.cell 3
      have fc_z := FC.out.lt
      have fd_0 : w24.cell? ⟨FDa, 0, none⟩ = some (.bool b3) := FD.out.cell 0
      have fd_1 : w24.cell? ⟨FDa, 1, none⟩ = some (.slice AOD l3.length cOD) := FD.out.cell 1
      have fd_2 : w24.cell? ⟨FDa, 2, none⟩ = some (.int .i64 wh3) := FD.out.cell 2
      have fd_3 : w24.cell? ⟨FDa, 3, none⟩ = some (.int .i64 st3) := FD.out.cell 3
      have fd_z := FD.out.lt
      go_wp2_with fail
      clear fa_0 fa_1 fa_2 fa_3 fa_z fb_0 fb_1 fb_2 fb_3 fb_z fc_0 fc_1 fc_2 fc_3 fc_z fd_0 fd_1 fd_2 fd_3 fd_z
      have gr5 := GR.out.alloc (.cells #[.slice AOA l1.length cOA, .slice AOB l2.length cOB, .slice AOC l1.length cOC, .slice AOD l3.length cOD] 25)
      obtain ⟨rw5, hrow, hO, hap, hN⟩ := gr5.rws
      have hR : Blk (w24.alloc (.cells #[.slice AOA l1.length cOA, .slice AOB l2.length cOB, .slice AOC l1.length cOC, .slice AOD l3.length cOD] 25)) w24.heap.size 25 ((List.range 4).map rw5.v) := by
        rw [show (List.range 4).map rw5.v = [.slice AOA l1.length cOA, .slice AOB l2.length cOB, .slice AOC l1.length cOC, .slice AOD l3.length cOD] from hrow]
        exact Blk.new w24 25 [.slice AOA l1.length cOA, .slice AOB l2.length cOB, .slice AOC l1.length cOC, .slice AOD l3.length cOD]
      have hNN : ∀ j, j < 4 → rw5.N j ≤ 8388608 := by
        intro j hj
        obtain ⟨x, hx, e⟩ := hN j hj
        rw [e]
        simp only [List.nil_append, List.cons_append, List.mem_cons, List.not_mem_nil, or_false] at hx
        rcases hx with rfl | rfl | rfl | rfl <;> simp <;> omega
      refine (OwnI.owned_any 4 w24.heap.size base rw5 _ (w24.alloc (.cells #[.slice AOA l1.length cOA, .slice AOB l2.length cOB, .slice AOC l1.length cOC, .slice AOD l3.length cOD] 25)) (by omega) hNN (by have := SZ.out; simp; omega) hR hO hap).mono ?_
      rintro e w25 ⟨rfl, hbx⟩
      simp only []
      have q3 : ((er3 : Int) == er3) = true := by simp
      go_wp2_with fail
      go_ret
      have hs0 := SZ.out
      have hs1 := B0.out.size
      have hs2 := HGU.out
      have hs3 := HGB.out
      exact ⟨rfl, (B0.out.alloc hs1 _).trans (hbx.mono (by omega))⟩
end Go.Proofs.Yteiggbbljgkloaa
