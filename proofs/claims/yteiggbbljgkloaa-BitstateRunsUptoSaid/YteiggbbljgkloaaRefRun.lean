/- heronref12.Run: what it answers. -/
import Derived.Test.YteiggbbljgkloaaRefFrom
import Derived.Test.YteiggbbljgkloaaRunMain
import Derived.Test.YteiggbbljgkloaaRefCheck
namespace Go.Proofs.Yteiggbbljgkloaa
open Go.RowKit Go.Proofs.Yteiggbbljgkloaa.Mach

set_option maxRecDepth 1000000 in
set_option maxHeartbeats 4000000 in
theorem refRun_long (A At : Option Addr) (n c nt ct : Nat) (L : List InV) (t : List Int) (start caps at_ : Int) (anch : Bool) (w : World) (hP : ReadsP w w.heap.size A n c L) (hT : Reads w w.heap.size 1 At nt ct (t.map (Value.int .i64)))
    (hl : 4194304 < nt)
    : Calls Try.prog 6 #[.agg #[.slice A n c, .int .i64 start, .int .i64 caps], .slice At nt ct, .int .i64 at_, .bool anch] w fun e w' => RunPost w.heap.size w (2, none, 0) e w' := by
  have hbW : Below w.heap.size w ((w.alloc (.cells #[.slice A n c, .int .i64 start, .int .i64 caps] 24)).alloc (.cells #[.bool false, .slice none 0 0, .int .i64 0, .int .i64 0] 30)) := ((Below.refl _ _).alloc (Nat.le_refl _) _).alloc (by simp) _
  have hPB : Blk ((w.alloc (.cells #[.slice A n c, .int .i64 start, .int .i64 caps] 24)).alloc (.cells #[.bool false, .slice none 0 0, .int .i64 0, .int .i64 0] 30)) w.heap.size 24 [.slice A n c, .int .i64 start, .int .i64 caps] := (Blk.new w _ [.slice A n c, .int .i64 start, .int .i64 caps]).alloc _
  have hFB : Blk ((w.alloc (.cells #[.slice A n c, .int .i64 start, .int .i64 caps] 24)).alloc (.cells #[.bool false, .slice none 0 0, .int .i64 0, .int .i64 0] 30)) (w.heap.size + 1) 30 [.bool false, .slice none 0 0, .int .i64 0, .int .i64 0] := by
    have := Blk.new (w.alloc (.cells #[.slice A n c, .int .i64 start, .int .i64 caps] 24)) 30 [.bool false, .slice none 0 0, .int .i64 0, .int .i64 0]
    rw [show (w.alloc (.cells #[.slice A n c, .int .i64 start, .int .i64 caps] 24)).heap.size = w.heap.size + 1 from by simp] at this
    exact this
  have HBW := Lib.hid hbW
  have HPB := Lib.hid hPB
  have HFB := Lib.hid hFB
  have hl2 : (4194304 : Int) < (nt : Int) := by omega
  clear hbW hPB hFB hl hP hT
  go_enter Try.func6, Try.ntmps6
  go_wp2_with fail
  obtain ⟨d, hu, hd⟩ := und_found
  refine bodyPost_ret (results_cell_tmp_row rfl _ _ (w.heap.size + 1) _ #[.bool false, .slice none 0 0, .int .i64 0, .int .i64 0] d rfl HFB.out hu hd size_found) rfl ?_
  exact ⟨.slice none 0 0, rfl, World.ownsRow_nil _ _ _ _, HBW.out⟩


set_option maxRecDepth 1000000 in
set_option maxHeartbeats 4000000 in
theorem refRun_prog (A At : Option Addr) (n c nt ct : Nat) (L : List InV) (t : List Int) (start caps at_ : Int) (anch : Bool) (w : World) (hP : ReadsP w w.heap.size A n c L) (hT : Reads w w.heap.size 1 At nt ct (t.map (Value.int .i64)))
    (hl : nt ≤ 4194304) (hc : checkB ⟨insL L, start, caps⟩ = false)
    : Calls Try.prog 6 #[.agg #[.slice A n c, .int .i64 start, .int .i64 caps], .slice At nt ct, .int .i64 at_, .bool anch] w fun e w' => RunPost w.heap.size w (90, none, 0) e w' := by
  have hbW : Below w.heap.size w ((w.alloc (.cells #[.slice A n c, .int .i64 start, .int .i64 caps] 24)).alloc (.cells #[.bool false, .slice none 0 0, .int .i64 0, .int .i64 0] 30)) := ((Below.refl _ _).alloc (Nat.le_refl _) _).alloc (by simp) _
  have hPB : Blk ((w.alloc (.cells #[.slice A n c, .int .i64 start, .int .i64 caps] 24)).alloc (.cells #[.bool false, .slice none 0 0, .int .i64 0, .int .i64 0] 30)) w.heap.size 24 [.slice A n c, .int .i64 start, .int .i64 caps] := (Blk.new w _ [.slice A n c, .int .i64 start, .int .i64 caps]).alloc _
  have hFB : Blk ((w.alloc (.cells #[.slice A n c, .int .i64 start, .int .i64 caps] 24)).alloc (.cells #[.bool false, .slice none 0 0, .int .i64 0, .int .i64 0] 30)) (w.heap.size + 1) 30 [.bool false, .slice none 0 0, .int .i64 0, .int .i64 0] := by
    have := Blk.new (w.alloc (.cells #[.slice A n c, .int .i64 start, .int .i64 caps] 24)) 30 [.bool false, .slice none 0 0, .int .i64 0, .int .i64 0]
    rw [show (w.alloc (.cells #[.slice A n c, .int .i64 start, .int .i64 caps] 24)).heap.size = w.heap.size + 1 from by simp] at this
    exact this
  have HBW := Lib.hid hbW
  have HPB := Lib.hid hPB
  have HFB := Lib.hid hFB
  have hl2 : ¬ ((4194304 : Int) < (nt : Int)) := by omega
  have HCH := Lib.hid (refCheck_any A n c L start caps ((w.alloc (.cells #[.slice A n c, .int .i64 start, .int .i64 caps] 24)).alloc (.cells #[.bool false, .slice none 0 0, .int .i64 0, .int .i64 0] 30)) ((hP.below hbW).more hbW.size))
  rw [show chkE ⟨insL L, start, caps⟩ = 90 from by unfold chkE; rw [hc]; rfl] at HCH
  clear hbW hPB hFB hl hP hT hc
  go_enter Try.func6, Try.ntmps6
  go_wp2_with (go_at_call 17; refine HCH.out.mono ?_; rintro e w1 ⟨rfl, hb1⟩; have HB1 := Lib.hid (HBW.out.trans (hb1.mono HBW.out.size)); have HF1 := Lib.hid (HFB.out.below hb1 HFB.out.lt); have HP1 := Lib.hid (HPB.out.below hb1 HPB.out.lt); have r0 : w1.cell? ⟨w.heap.size + 1, 0, none⟩ = some (.bool false) := HF1.out.cell 0; have r1 : w1.cell? ⟨w.heap.size + 1, 1, none⟩ = some (.slice none 0 0) := HF1.out.cell 1; have r2 : w1.cell? ⟨w.heap.size + 1, 2, none⟩ = some (.int .i64 0) := HF1.out.cell 2; have r3 : w1.cell? ⟨w.heap.size + 1, 3, none⟩ = some (.int .i64 0) := HF1.out.cell 3; have s0 := HF1.out.frozen 0; have s1 := HF1.out.frozen 1; have s2 := HF1.out.frozen 2; have s3 := HF1.out.frozen 3; have s4 := HF1.out.lt; have p0 : w1.cell? ⟨w.heap.size, 0, none⟩ = some (.slice A n c) := HP1.out.cell 0; have p1 : w1.cell? ⟨w.heap.size, 1, none⟩ = some (.int .i64 start) := HP1.out.cell 1; have p2 : w1.cell? ⟨w.heap.size, 2, none⟩ = some (.int .i64 caps) := HP1.out.cell 2; have p4 := HP1.out.lt; clear hb1; simp only [])
  obtain ⟨d, hu, hd⟩ := und_found
  (try simp only [Exit.inBlock, Exit.then, Exit.noGoto])
  have hk := fun u0 u1 u2 u3 => (((Kept.setCell (w := w1) ⟨w.heap.size + 1, 0, none⟩ u0).trans (Kept.setCell ⟨w.heap.size + 1, 1, none⟩ u1)).trans (Kept.setCell ⟨w.heap.size + 1, 2, none⟩ u2)).trans (Kept.setCell ⟨w.heap.size + 1, 3, none⟩ u3)
  refine bodyPost_ret (results_cell_tmp_row rfl _ _ (w.heap.size + 1) _ #[.bool false, .slice none 0 0, .int .i64 0, .int .i64 0] d rfl (((((HF1.out).set_ 0 (.bool false)).set_ 1 (.slice none 0 0)).set_ 2 (.int .i64 0)).set_ 3 (.int .i64 0)) hu hd size_found) rfl ?_
  exact ⟨.slice none 0 0, rfl, World.ownsRow_nil _ _ _ _, Below.kept HB1.out (hk _ _ _ _) (by intro g hg; simp at hg; omega) HB1.out.size⟩


set_option maxRecDepth 1000000 in
set_option maxHeartbeats 4000000 in
theorem refRun_arg (A At : Option Addr) (n c nt ct : Nat) (L : List InV) (t : List Int) (start caps at_ : Int) (anch : Bool) (w : World) (hP : ReadsP w w.heap.size A n c L) (hT : Reads w w.heap.size 1 At nt ct (t.map (Value.int .i64)))
    (hl : nt ≤ 4194304) (hc : checkB ⟨insL L, start, caps⟩ = true) (ha : at_ < 0 ∨ (nt : Int) < at_)
    : Calls Try.prog 6 #[.agg #[.slice A n c, .int .i64 start, .int .i64 caps], .slice At nt ct, .int .i64 at_, .bool anch] w fun e w' => RunPost w.heap.size w (1, none, 0) e w' := by
  have hbW : Below w.heap.size w ((w.alloc (.cells #[.slice A n c, .int .i64 start, .int .i64 caps] 24)).alloc (.cells #[.bool false, .slice none 0 0, .int .i64 0, .int .i64 0] 30)) := ((Below.refl _ _).alloc (Nat.le_refl _) _).alloc (by simp) _
  have hPB : Blk ((w.alloc (.cells #[.slice A n c, .int .i64 start, .int .i64 caps] 24)).alloc (.cells #[.bool false, .slice none 0 0, .int .i64 0, .int .i64 0] 30)) w.heap.size 24 [.slice A n c, .int .i64 start, .int .i64 caps] := (Blk.new w _ [.slice A n c, .int .i64 start, .int .i64 caps]).alloc _
  have hFB : Blk ((w.alloc (.cells #[.slice A n c, .int .i64 start, .int .i64 caps] 24)).alloc (.cells #[.bool false, .slice none 0 0, .int .i64 0, .int .i64 0] 30)) (w.heap.size + 1) 30 [.bool false, .slice none 0 0, .int .i64 0, .int .i64 0] := by
    have := Blk.new (w.alloc (.cells #[.slice A n c, .int .i64 start, .int .i64 caps] 24)) 30 [.bool false, .slice none 0 0, .int .i64 0, .int .i64 0]
    rw [show (w.alloc (.cells #[.slice A n c, .int .i64 start, .int .i64 caps] 24)).heap.size = w.heap.size + 1 from by simp] at this
    exact this
  have HBW := Lib.hid hbW
  have HPB := Lib.hid hPB
  have HFB := Lib.hid hFB
  have hl2 : ¬ ((4194304 : Int) < (nt : Int)) := by omega
  have HCH := Lib.hid (refCheck_any A n c L start caps ((w.alloc (.cells #[.slice A n c, .int .i64 start, .int .i64 caps] 24)).alloc (.cells #[.bool false, .slice none 0 0, .int .i64 0, .int .i64 0] 30)) ((hP.below hbW).more hbW.size))
  rw [show chkE ⟨insL L, start, caps⟩ = 0 from by unfold chkE; rw [hc]; rfl] at HCH
  clear hbW hPB hFB hl hP hT hc
  rcases ha with ha | ha
  all_goals
    go_enter Try.func6, Try.ntmps6
    go_wp2_with (go_at_call 17; refine HCH.out.mono ?_; rintro e w1 ⟨rfl, hb1⟩; have HB1 := Lib.hid (HBW.out.trans (hb1.mono HBW.out.size)); have HF1 := Lib.hid (HFB.out.below hb1 HFB.out.lt); have HP1 := Lib.hid (HPB.out.below hb1 HPB.out.lt); have r0 : w1.cell? ⟨w.heap.size + 1, 0, none⟩ = some (.bool false) := HF1.out.cell 0; have r1 : w1.cell? ⟨w.heap.size + 1, 1, none⟩ = some (.slice none 0 0) := HF1.out.cell 1; have r2 : w1.cell? ⟨w.heap.size + 1, 2, none⟩ = some (.int .i64 0) := HF1.out.cell 2; have r3 : w1.cell? ⟨w.heap.size + 1, 3, none⟩ = some (.int .i64 0) := HF1.out.cell 3; have s0 := HF1.out.frozen 0; have s1 := HF1.out.frozen 1; have s2 := HF1.out.frozen 2; have s3 := HF1.out.frozen 3; have s4 := HF1.out.lt; have p0 : w1.cell? ⟨w.heap.size, 0, none⟩ = some (.slice A n c) := HP1.out.cell 0; have p1 : w1.cell? ⟨w.heap.size, 1, none⟩ = some (.int .i64 start) := HP1.out.cell 1; have p2 : w1.cell? ⟨w.heap.size, 2, none⟩ = some (.int .i64 caps) := HP1.out.cell 2; have p4 := HP1.out.lt; clear hb1; simp only [])
  all_goals
    obtain ⟨d, hu, hd⟩ := und_found
    (try simp only [Exit.inBlock, Exit.then, Exit.noGoto])
    have hk := fun u0 u1 u2 u3 => (((Kept.setCell (w := w1) ⟨w.heap.size + 1, 0, none⟩ u0).trans (Kept.setCell ⟨w.heap.size + 1, 1, none⟩ u1)).trans (Kept.setCell ⟨w.heap.size + 1, 2, none⟩ u2)).trans (Kept.setCell ⟨w.heap.size + 1, 3, none⟩ u3)
    refine bodyPost_ret (results_cell_tmp_row rfl _ _ (w.heap.size + 1) _ #[.bool false, .slice none 0 0, .int .i64 0, .int .i64 0] d rfl (((((HF1.out).set_ 0 (.bool false)).set_ 1 (.slice none 0 0)).set_ 2 (.int .i64 0)).set_ 3 (.int .i64 0)) hu hd size_found) rfl ?_
    exact ⟨.slice none 0 0, rfl, World.ownsRow_nil _ _ _ _, Below.kept HB1.out (hk _ _ _ _) (by intro g hg; simp at hg; omega) HB1.out.size⟩


set_option maxRecDepth 1000000 in
set_option maxHeartbeats 4000000 in
theorem refRun_big (A At : Option Addr) (n c nt ct : Nat) (L : List InV) (t : List Int) (start caps at_ : Int) (anch : Bool) (w : World) (hP : ReadsP w w.heap.size A n c L) (hT : Reads w w.heap.size 1 At nt ct (t.map (Value.int .i64)))
    (hl : nt ≤ 4194304) (hc : checkB ⟨insL L, start, caps⟩ = true) (ha : 0 ≤ at_ ∧ at_ ≤ (nt : Int)) (hbig : 16777216 < n * (nt - at_.toNat + 1))
    : Calls Try.prog 6 #[.agg #[.slice A n c, .int .i64 start, .int .i64 caps], .slice At nt ct, .int .i64 at_, .bool anch] w fun e w' => RunPost w.heap.size w (3, none, 0) e w' := by
  obtain ⟨k0, rfl⟩ : ∃ k0 : Nat, at_ = (k0 : Int) := ⟨at_.toNat, by omega⟩
  rw [Int.toNat_natCast] at hbig
  have hk0 : k0 ≤ nt := by omega
  obtain ⟨pl, hpl⟩ : ∃ pl : Nat, pl = nt - k0 + 1 := ⟨_, rfl⟩
  rw [← hpl] at hbig
  have hple : (nt : Int) - (k0 : Int) + 1 = (pl : Int) := by omega
  obtain ⟨N, hN⟩ : ∃ N : Nat, N = n * pl := ⟨_, rfl⟩
  rw [← hN] at hbig
  have hNe : (n : Int) * (pl : Int) = (N : Int) := by rw [hN]; norm_cast
  have hat1 : ¬ ((k0 : Int) < 0) := by omega
  have hat2 : ¬ ((nt : Int) < (k0 : Int)) := by omega
  have hplb : pl ≤ 4194305 := by omega
  have hnb : n ≤ 20000 := by
    have := (head_of hc).2.1
    have hl := hP.len
    simp only [insL, List.length_map] at this
    omega
  have hNb : N ≤ 20000 * 4194305 := by rw [hN]; exact Nat.mul_le_mul hnb hplb
  have hbW : Below w.heap.size w ((w.alloc (.cells #[.slice A n c, .int .i64 start, .int .i64 caps] 24)).alloc (.cells #[.bool false, .slice none 0 0, .int .i64 0, .int .i64 0] 30)) := ((Below.refl _ _).alloc (Nat.le_refl _) _).alloc (by simp) _
  have hPB : Blk ((w.alloc (.cells #[.slice A n c, .int .i64 start, .int .i64 caps] 24)).alloc (.cells #[.bool false, .slice none 0 0, .int .i64 0, .int .i64 0] 30)) w.heap.size 24 [.slice A n c, .int .i64 start, .int .i64 caps] := (Blk.new w _ [.slice A n c, .int .i64 start, .int .i64 caps]).alloc _
  have hFB : Blk ((w.alloc (.cells #[.slice A n c, .int .i64 start, .int .i64 caps] 24)).alloc (.cells #[.bool false, .slice none 0 0, .int .i64 0, .int .i64 0] 30)) (w.heap.size + 1) 30 [.bool false, .slice none 0 0, .int .i64 0, .int .i64 0] := by
    have := Blk.new (w.alloc (.cells #[.slice A n c, .int .i64 start, .int .i64 caps] 24)) 30 [.bool false, .slice none 0 0, .int .i64 0, .int .i64 0]
    rw [show (w.alloc (.cells #[.slice A n c, .int .i64 start, .int .i64 caps] 24)).heap.size = w.heap.size + 1 from by simp] at this
    exact this
  have HBW := Lib.hid hbW
  have HPB := Lib.hid hPB
  have HFB := Lib.hid hFB
  have hl2 : ¬ ((4194304 : Int) < (nt : Int)) := by omega
  have hbig2 : (16777216 : Int) < (N : Int) := by omega
  have HCH := Lib.hid (refCheck_any A n c L start caps ((w.alloc (.cells #[.slice A n c, .int .i64 start, .int .i64 caps] 24)).alloc (.cells #[.bool false, .slice none 0 0, .int .i64 0, .int .i64 0] 30)) ((hP.below hbW).more hbW.size))
  rw [show chkE ⟨insL L, start, caps⟩ = 0 from by unfold chkE; rw [hc]; rfl] at HCH
  clear hbW hPB hFB hl hP hT hc hN hpl ha hbig
  go_enter Try.func6, Try.ntmps6
  go_wp2_with (go_at_call 17; refine HCH.out.mono ?_; rintro e w1 ⟨rfl, hb1⟩; have HB1 := Lib.hid (HBW.out.trans (hb1.mono HBW.out.size)); have HF1 := Lib.hid (HFB.out.below hb1 HFB.out.lt); have HP1 := Lib.hid (HPB.out.below hb1 HPB.out.lt); have r0 : w1.cell? ⟨w.heap.size + 1, 0, none⟩ = some (.bool false) := HF1.out.cell 0; have r1 : w1.cell? ⟨w.heap.size + 1, 1, none⟩ = some (.slice none 0 0) := HF1.out.cell 1; have r2 : w1.cell? ⟨w.heap.size + 1, 2, none⟩ = some (.int .i64 0) := HF1.out.cell 2; have r3 : w1.cell? ⟨w.heap.size + 1, 3, none⟩ = some (.int .i64 0) := HF1.out.cell 3; have s0 := HF1.out.frozen 0; have s1 := HF1.out.frozen 1; have s2 := HF1.out.frozen 2; have s3 := HF1.out.frozen 3; have s4 := HF1.out.lt; have p0 : w1.cell? ⟨w.heap.size, 0, none⟩ = some (.slice A n c) := HP1.out.cell 0; have p1 : w1.cell? ⟨w.heap.size, 1, none⟩ = some (.int .i64 start) := HP1.out.cell 1; have p2 : w1.cell? ⟨w.heap.size, 2, none⟩ = some (.int .i64 caps) := HP1.out.cell 2; have p4 := HP1.out.lt; clear hb1; simp only [])
  obtain ⟨d, hu, hd⟩ := und_found
  (try simp only [Exit.inBlock, Exit.then, Exit.noGoto])
  have hk := fun u0 u1 u2 u3 => (((Kept.setCell (w := w1) ⟨w.heap.size + 1, 0, none⟩ u0).trans (Kept.setCell ⟨w.heap.size + 1, 1, none⟩ u1)).trans (Kept.setCell ⟨w.heap.size + 1, 2, none⟩ u2)).trans (Kept.setCell ⟨w.heap.size + 1, 3, none⟩ u3)
  refine bodyPost_ret (results_cell_tmp_row rfl _ _ (w.heap.size + 1) _ #[.bool false, .slice none 0 0, .int .i64 0, .int .i64 0] d rfl (((((HF1.out).set_ 0 (.bool false)).set_ 1 (.slice none 0 0)).set_ 2 (.int .i64 0)).set_ 3 (.int .i64 0)) hu hd size_found) rfl ?_
  exact ⟨.slice none 0 0, rfl, World.ownsRow_nil _ _ _ _, Below.kept HB1.out (hk _ _ _ _) (by intro g hg; simp at hg; omega) HB1.out.size⟩


theorem bool_info12 : (Try.prog.info? 4).map (fun i => (i.zero, i.size, i.bytes)) = some (some (.bool false), 1, 1) := by kernel_rfl

set_option maxRecDepth 1000000 in
set_option maxHeartbeats 4000000 in
theorem refRun_main (A At : Option Addr) (n c nt ct : Nat) (L : List InV) (t : List Int) (start caps at_ : Int) (anch : Bool) (w : World) (hP : ReadsP w w.heap.size A n c L) (hT : Reads w w.heap.size 1 At nt ct (t.map (Value.int .i64)))
    (hl : nt ≤ 4194304) (hc : checkB ⟨insL L, start, caps⟩ = true) (ha : 0 ≤ at_ ∧ at_ ≤ (nt : Int)) (hbig : n * (nt - at_.toNat + 1) ≤ 16777216)
    : Calls Try.prog 6 #[.agg #[.slice A n c, .int .i64 start, .int .i64 caps], .slice At nt ct, .int .i64 at_, .bool anch] w fun e w' => RunPost w.heap.size w (0, search ⟨insL L, start, caps⟩ t at_.toNat anch (t.length + 1 - at_.toNat) at_.toNat (List.replicate ((insL L).length * places t at_.toNat) false) 0) e w' := by
  obtain ⟨k0, rfl⟩ : ∃ k0 : Nat, at_ = (k0 : Int) := ⟨at_.toNat, by omega⟩
  rw [Int.toNat_natCast] at hbig
  have hk0 : k0 ≤ nt := by omega
  obtain ⟨pl, hpl⟩ : ∃ pl : Nat, pl = nt - k0 + 1 := ⟨_, rfl⟩
  rw [← hpl] at hbig
  have hple : (nt : Int) - (k0 : Int) + 1 = (pl : Int) := by omega
  obtain ⟨N, hN⟩ : ∃ N : Nat, N = n * pl := ⟨_, rfl⟩
  rw [← hN] at hbig
  have hNe : (n : Int) * (pl : Int) = (N : Int) := by rw [hN]; norm_cast
  have hat1 : ¬ ((k0 : Int) < 0) := by omega
  have hat2 : ¬ ((nt : Int) < (k0 : Int)) := by omega
  have hplb : pl ≤ 4194305 := by omega
  have hnb : n ≤ 20000 := by
    have := (head_of hc).2.1
    have hl := hP.len
    simp only [insL, List.length_map] at this
    omega
  have hNb : N ≤ 20000 * 4194305 := by rw [hN]; exact Nat.mul_le_mul hnb hplb
  have hbW : Below w.heap.size w ((w.alloc (.cells #[.slice A n c, .int .i64 start, .int .i64 caps] 24)).alloc (.cells #[.bool false, .slice none 0 0, .int .i64 0, .int .i64 0] 30)) := ((Below.refl _ _).alloc (Nat.le_refl _) _).alloc (by simp) _
  have hPB : Blk ((w.alloc (.cells #[.slice A n c, .int .i64 start, .int .i64 caps] 24)).alloc (.cells #[.bool false, .slice none 0 0, .int .i64 0, .int .i64 0] 30)) w.heap.size 24 [.slice A n c, .int .i64 start, .int .i64 caps] := (Blk.new w _ [.slice A n c, .int .i64 start, .int .i64 caps]).alloc _
  have hFB : Blk ((w.alloc (.cells #[.slice A n c, .int .i64 start, .int .i64 caps] 24)).alloc (.cells #[.bool false, .slice none 0 0, .int .i64 0, .int .i64 0] 30)) (w.heap.size + 1) 30 [.bool false, .slice none 0 0, .int .i64 0, .int .i64 0] := by
    have := Blk.new (w.alloc (.cells #[.slice A n c, .int .i64 start, .int .i64 caps] 24)) 30 [.bool false, .slice none 0 0, .int .i64 0, .int .i64 0]
    rw [show (w.alloc (.cells #[.slice A n c, .int .i64 start, .int .i64 caps] 24)).heap.size = w.heap.size + 1 from by simp] at this
    exact this
  have HBW := Lib.hid hbW
  have HPB := Lib.hid hPB
  have HFB := Lib.hid hFB
  have hl2 : ¬ ((4194304 : Int) < (nt : Int)) := by omega
  have hbig2 : ¬ ((16777216 : Int) < (N : Int)) := by omega
  obtain ⟨iB, hiB, hz0B, hz1B, hz2B⟩ := info_parts bool_info12
  have hmk : ∀ u : World, (Instr.makeSlice 46 (.int .i64 (N : Int)) (.int .i64 (N : Int))).run Try.prog u =
      .ok (.slice (some ⟨u.heap.size, 0, none⟩) N N) (u.alloc (.cells (Array.replicate N (.bool false)) 4)) := fun u => by
    have h := run_make (P := Try.prog) u 46 4 iB (.bool false) Try.underlying46 hiB hz0B .i64 .i64 (N : Int) (N : Int) (by omega) (Int.le_refl _) (by rw [hz2B]; omega) (by omega)
    have hmd : madeCells #[.bool false] N = Array.replicate N (.bool false) := by
      apply Array.toList_inj.1
      rw [toList_madeCells_one]; simp
    rw [Int.toNat_natCast] at h
    rw [← hmd]
    simpa [hz1B, Value.cells] using h
  have HCH := Lib.hid (refCheck_any A n c L start caps ((w.alloc (.cells #[.slice A n c, .int .i64 start, .int .i64 caps] 24)).alloc (.cells #[.bool false, .slice none 0 0, .int .i64 0, .int .i64 0] 30)) ((hP.below hbW).more hbW.size))
  rw [show chkE ⟨insL L, start, caps⟩ = 0 from by unfold chkE; rw [hc]; rfl] at HCH
  have htl : t.length = nt := by have := hT.len; simpa using this
  have hnl : (insL L).length = n := by rw [insL, List.length_map]; exact hP.len
  have HN := Lib.hid (show (insL L).length * places t k0 = N from by rw [hnl, hN, hpl]; unfold places; rw [htl])
  have HCK := Lib.hid hc
  have HTL := Lib.hid htl
  have HPP := Lib.hid hP
  have HTT := Lib.hid hT
  clear hbW hPB hFB hl hP hT hc hN hpl ha hbig htl hnl hiB hz0B hz1B hz2B
  go_enter Try.func6, Try.ntmps6
  go_wp2_with (go_at_call 17; refine HCH.out.mono ?_; rintro e w1 ⟨rfl, hb1⟩; have HB1 := Lib.hid (HBW.out.trans (hb1.mono HBW.out.size)); have HF1 := Lib.hid (HFB.out.below hb1 HFB.out.lt); have HP1 := Lib.hid (HPB.out.below hb1 HPB.out.lt); have r0 : w1.cell? ⟨w.heap.size + 1, 0, none⟩ = some (.bool false) := HF1.out.cell 0; have r1 : w1.cell? ⟨w.heap.size + 1, 1, none⟩ = some (.slice none 0 0) := HF1.out.cell 1; have r2 : w1.cell? ⟨w.heap.size + 1, 2, none⟩ = some (.int .i64 0) := HF1.out.cell 2; have r3 : w1.cell? ⟨w.heap.size + 1, 3, none⟩ = some (.int .i64 0) := HF1.out.cell 3; have s0 := HF1.out.frozen 0; have s1 := HF1.out.frozen 1; have s2 := HF1.out.frozen 2; have s3 := HF1.out.frozen 3; have s4 := HF1.out.lt; have p0 : w1.cell? ⟨w.heap.size, 0, none⟩ = some (.slice A n c) := HP1.out.cell 0; have p1 : w1.cell? ⟨w.heap.size, 1, none⟩ = some (.int .i64 start) := HP1.out.cell 1; have p2 : w1.cell? ⟨w.heap.size, 2, none⟩ = some (.int .i64 caps) := HP1.out.cell 2; have p4 := HP1.out.lt; clear hb1; simp only [])
  go_region
  have z1 : (w1.alloc (.cells (Array.replicate N (.bool false)) 4)).heap.size = w1.heap.size + 1 := by simp
  have hM : Blk (((w1.alloc (.cells (Array.replicate N (.bool false)) 4)).alloc (.cells #[.slice A n c, .int .i64 start, .int .i64 caps, .slice At nt ct, .int .i64 (k0 : Int), .slice (some ⟨w1.heap.size, 0, none⟩) N N, .slice none 0 0, .int .i64 0, .int .i64 0, .slice none 0 0] 49)).drew) w1.heap.size 4 ((List.replicate N false).map Value.bool) := by
    rw [List.map_replicate]
    exact (Blk.new w1 4 (List.replicate N (.bool false))).alloc _
  have hMM : Blk (((w1.alloc (.cells (Array.replicate N (.bool false)) 4)).alloc (.cells #[.slice A n c, .int .i64 start, .int .i64 caps, .slice At nt ct, .int .i64 (k0 : Int), .slice (some ⟨w1.heap.size, 0, none⟩) N N, .slice none 0 0, .int .i64 0, .int .i64 0, .slice none 0 0] 49)).drew) (w1.heap.size + 1) 49 [.slice A n c, .int .i64 start, .int .i64 caps, .slice At nt ct, .int .i64 (k0 : Int), .slice (some ⟨w1.heap.size, 0, none⟩) N N, .slice none 0 0, .int .i64 0, .int .i64 0, .slice none 0 0] := by
    rw [← z1]
    exact Blk.new (w1.alloc (.cells (Array.replicate N (.bool false)) 4)) 49 [.slice A n c, .int .i64 start, .int .i64 caps, .slice At nt ct, .int .i64 (k0 : Int), .slice (some ⟨w1.heap.size, 0, none⟩) N N, .slice none 0 0, .int .i64 0, .int .i64 0, .slice none 0 0]
  have hb3 : Below w1.heap.size w1 (((w1.alloc (.cells (Array.replicate N (.bool false)) 4)).alloc (.cells #[.slice A n c, .int .i64 start, .int .i64 caps, .slice At nt ct, .int .i64 (k0 : Int), .slice (some ⟨w1.heap.size, 0, none⟩) N N, .slice none 0 0, .int .i64 0, .int .i64 0, .slice none 0 0] 49)).drew) := bdrewN (((Below.refl _ _).alloc (Nat.le_refl _) _).alloc (by simp) _) 1
  have HMB := Lib.hid (show Mb (⟨w1, w1.heap.size + 1, w1.heap.size, A, n, c, start, caps, At, nt, ct, k0, N⟩ : Mx) (.slice none 0 0) ((0 : Nat) : Int) 0 (.slice none 0 0) (List.replicate N false) (((w1.alloc (.cells (Array.replicate N (.bool false)) 4)).alloc (.cells #[.slice A n c, .int .i64 start, .int .i64 caps, .slice At nt ct, .int .i64 (k0 : Int), .slice (some ⟨w1.heap.size, 0, none⟩) N N, .slice none 0 0, .int .i64 0, .int .i64 0, .slice none 0 0] 49)).drew) from ⟨hb3, Nat.le_succ _, Nat.le_refl _, hMM, hM⟩)
  have HX := Lib.hid (show Mcx (⟨w1, w1.heap.size + 1, w1.heap.size, A, n, c, start, caps, At, nt, ct, k0, N⟩ : Mx) ⟨insL L, start, caps⟩ t L from ⟨(HPP.out.below HB1.out).more HB1.out.size, (HTT.out.below HB1.out).more HB1.out.size, rfl, HCK.out, hk0, HN.out.symm, by simp only []; omega, by simp only []; omega, rfl, rfl⟩)
  clear hM hMM hb3 z1 hmk
  generalize ((w1.alloc (.cells (Array.replicate N (.bool false)) 4)).alloc (.cells #[.slice A n c, .int .i64 start, .int .i64 caps, .slice At nt ct, .int .i64 (k0 : Int), .slice (some ⟨w1.heap.size, 0, none⟩) N N, .slice none 0 0, .int .i64 0, .int .i64 0, .slice none 0 0] 49)).drew = w3 at *
  obtain ⟨d, hu, hd⟩ := und_found
  (try simp only [Exit.then])
  go_wp2_with fail
  go_loopw [13] (fun q wr => ∃ (bb : Nat) (CV LV : Value) (met : List Bool) (steps : Nat), q = .int .i64 bb ∧ k0 ≤ bb ∧ bb ≤ nt + 1 ∧ search ⟨insL L, start, caps⟩ t k0 anch (t.length + 1 - k0) k0 (List.replicate N false) 0 = search ⟨insL L, start, caps⟩ t k0 anch (t.length + 1 - bb) bb met steps ∧ met.length = N ∧ steps + met.count false ≤ met.length ∧ Mb (⟨w1, w1.heap.size + 1, w1.heap.size, A, n, c, start, caps, At, nt, ct, k0, N⟩ : Mx) CV (steps : Int) 0 LV met wr) (fun q _ => nt + 1 - (intOf q).toNat)
  case atStart => exact ⟨k0, _, _, _, 0, rfl, Nat.le_refl _, by omega, rfl, by simp, by simp, HMB.out⟩
  case round =>
    obtain ⟨bb, CV, LV, met, steps, rfl, hb1, hb2, hsr, hml, hst, hmb⟩ := hrel
    have HSR := Lib.hid hsr
    clear hsr
    have hstN : steps ≤ 16777216 := by omega
    by_cases hlt : bb ≤ nt
    · have hlt2 : (bb : Int) ≤ (nt : Int) := by omega
      obtain ⟨f, hf⟩ : ∃ f, f = final ⟨insL L, start, caps⟩ t k0 (begin_ ⟨insL L, start, caps⟩ bb met steps) := ⟨_, rfl⟩
      have hok : Ok ⟨insL L, start, caps⟩ t k0 f := by
        rw [hf]
        exact Ok.iter_ HCK.out _ _ (Ok.start HCK.out (by rw [HTL.out]; exact hk0) ⟨hb1, by rw [HTL.out]; exact hlt⟩ (by rw [hml, HN.out]) hst)
      have HFR := from_any (⟨w1, w1.heap.size + 1, w1.heap.size, A, n, c, start, caps, At, nt, ct, k0, N⟩ : Mx) CV LV met steps wr t ⟨insL L, start, caps⟩ L bb HX.out hmb ⟨hb1, hlt⟩ hml hst
      simp only [] at HFR
      rw [← hf] at HFR
      have hnn : t.length + 1 - bb = (t.length + 1 - (bb + 1)) + 1 := by have := HTL.out; omega
      have HE := Lib.hid hf
      have HOK := Lib.hid hok
      have HNN := Lib.hid hnn
      have hst2 : f.steps ≤ 16777216 := by have h1 := hok.steps; have h2 : f.met.length = N := hok.met.trans HN.out; omega
      clear hmb hok hf hnn
      have ARM := True
      cases hfin : f.fin with
      | some wh =>
        simp only [FromPost, hfin, Option.isSome_some] at HFR
        have HFR := Lib.hid HFR
        have HFN := Lib.hid hfin
        have HS := Lib.hid (search_hit (n := t.length + 1 - (bb + 1)) (anch := anch) HE.out hfin)
        clear hfin
        go_wp2_with (go_at_call 18; refine HFR.out.mono ?_; rintro e w4 ⟨rfl, C, LV4, hm4⟩; have HM4 := Lib.hid hm4; have HB4 := Lib.hid (HB1.out.trans (hm4.mb.below.mono HB1.out.size)); have HF4 := Lib.hid (HF1.out.below hm4.mb.below HF1.out.lt); have d6 : w4.cell? ⟨w1.heap.size + 1, 6, none⟩ = some (.slice (some ⟨C, 0, none⟩) f.caps.length f.caps.length) := hm4.mb.mach.cell 6; have d7 : w4.cell? ⟨w1.heap.size + 1, 7, none⟩ = some (.int .i64 (f.steps : Int)) := hm4.mb.mach.cell 7; have d8 : w4.cell? ⟨w1.heap.size + 1, 8, none⟩ = some (.int .i64 wh) := (by have := hm4.mb.mach.cell 8; simpa [Mx.cells, HFN.out] using this); have r0 : w4.cell? ⟨w.heap.size + 1, 0, none⟩ = some (.bool false) := HF4.out.cell 0; have r1 : w4.cell? ⟨w.heap.size + 1, 1, none⟩ = some (.slice none 0 0) := HF4.out.cell 1; have r2 : w4.cell? ⟨w.heap.size + 1, 2, none⟩ = some (.int .i64 0) := HF4.out.cell 2; have r3 : w4.cell? ⟨w.heap.size + 1, 3, none⟩ = some (.int .i64 0) := HF4.out.cell 3; have s0 := HF4.out.frozen 0; have s1 := HF4.out.frozen 1; have s2 := HF4.out.frozen 2; have s3 := HF4.out.frozen 3; have s4 := HF4.out.lt; clear hm4; simp only [])
        go_region
        all_goals
          (try simp only [Exit.then])
          go_wp2_with fail
          have hk := fun u0 u1 u2 u3 => (((Kept.setCell (w := w4) ⟨w.heap.size + 1, 0, none⟩ u0).trans (Kept.setCell ⟨w.heap.size + 1, 1, none⟩ u1)).trans (Kept.setCell ⟨w.heap.size + 1, 2, none⟩ u2)).trans (Kept.setCell ⟨w.heap.size + 1, 3, none⟩ u3)
          refine bodyPost_ret (results_cell_tmp_row rfl _ _ (w.heap.size + 1) _ #[.bool true, .slice (some ⟨C, 0, none⟩) f.caps.length f.caps.length, .int .i64 wh, .int .i64 (f.steps : Int)] d rfl ((((HF4.out.set_ 0 (.bool true)).set_ 1 (.slice (some ⟨C, 0, none⟩) f.caps.length f.caps.length)).set_ 2 (.int .i64 wh)).set_ 3 (.int .i64 (f.steps : Int))).drew hu hd size_found) rfl ?_
          rw [Int.toNat_natCast, HN.out, HSR.out, HNN.out, HS.out]
          have hCR : C ≠ w.heap.size + 1 := HM4.out.capt.ne_ HF4.out (by decide)
          have hcl : f.caps.length ≤ 1002 := by have h1 := HOK.out.caps; have := (head_of HCK.out).2.2.2.2; simp only [] at this h1; omega
          have hCB := ((((HM4.out.capt.far (p := ⟨w.heap.size + 1, 0, none⟩) hCR (.bool true)).far (p := ⟨w.heap.size + 1, 1, none⟩) hCR (.slice (some ⟨C, 0, none⟩) f.caps.length f.caps.length)).far (p := ⟨w.heap.size + 1, 2, none⟩) hCR (.int .i64 wh)).far (p := ⟨w.heap.size + 1, 3, none⟩) hCR (.int .i64 (f.steps : Int))).drew
          have hown := hCB.own (base := w.heap.size) (size := 1) (n := f.caps.length) (c := f.caps.length) (Nat.le_trans HB1.out.size HM4.out.loC) (Nat.le_refl _) (by omega) (by simp)
          rw [List.take_of_length_le (by simp)] at hown
          exact ⟨_, rfl, hown, bdrewN (Below.kept HB4.out (hk _ _ _ _) (by intro g hg; simp at hg; omega) HB4.out.size) 1⟩
      | none =>
        simp only [FromPost, hfin, Option.isSome_none] at HFR
        have HFR := Lib.hid HFR
        have HFN := Lib.hid hfin
        have HS1 := Lib.hid (search_anch (n := t.length + 1 - (bb + 1)) HE.out hfin)
        have HS2 := Lib.hid (search_next (n := t.length + 1 - (bb + 1)) HE.out hfin)
        clear hfin
        cases anch with
        | true =>
          go_wp2_with (go_at_call 18; refine HFR.out.mono ?_; rintro e w4 ⟨rfl, C, LV4, hm4⟩; have HM4 := Lib.hid hm4; have HB4 := Lib.hid (HB1.out.trans (hm4.mb.below.mono HB1.out.size)); have HF4 := Lib.hid (HF1.out.below hm4.mb.below HF1.out.lt); have d7 : w4.cell? ⟨w1.heap.size + 1, 7, none⟩ = some (.int .i64 (f.steps : Int)) := hm4.mb.mach.cell 7; have r0 : w4.cell? ⟨w.heap.size + 1, 0, none⟩ = some (.bool false) := HF4.out.cell 0; have r1 : w4.cell? ⟨w.heap.size + 1, 1, none⟩ = some (.slice none 0 0) := HF4.out.cell 1; have r2 : w4.cell? ⟨w.heap.size + 1, 2, none⟩ = some (.int .i64 0) := HF4.out.cell 2; have r3 : w4.cell? ⟨w.heap.size + 1, 3, none⟩ = some (.int .i64 0) := HF4.out.cell 3; have s0 := HF4.out.frozen 0; have s1 := HF4.out.frozen 1; have s2 := HF4.out.frozen 2; have s3 := HF4.out.frozen 3; have s4 := HF4.out.lt; clear hm4; simp only [])
          have hk := fun u0 u1 u2 u3 => (((Kept.setCell (w := w4) ⟨w.heap.size + 1, 0, none⟩ u0).trans (Kept.setCell ⟨w.heap.size + 1, 1, none⟩ u1)).trans (Kept.setCell ⟨w.heap.size + 1, 2, none⟩ u2)).trans (Kept.setCell ⟨w.heap.size + 1, 3, none⟩ u3)
          refine bodyPost_ret (results_cell_tmp_row rfl _ _ (w.heap.size + 1) _ #[.bool false, .slice none 0 0, .int .i64 0, .int .i64 (f.steps : Int)] d rfl ((((HF4.out.set_ 0 (.bool false)).set_ 1 (.slice none 0 0)).set_ 2 (.int .i64 0)).set_ 3 (.int .i64 (f.steps : Int))) hu hd size_found) rfl ?_
          rw [Int.toNat_natCast, HN.out, HSR.out, HNN.out, HS1.out]
          exact ⟨_, rfl, World.ownsRow_nil _ _ _ _, Below.kept HB4.out (hk _ _ _ _) (by intro g hg; simp at hg; omega) HB4.out.size⟩
        | false =>
          go_wp2_with (go_at_call 18; refine HFR.out.mono ?_; rintro e w4 ⟨rfl, C, LV4, hm4⟩; have HM4 := Lib.hid hm4; clear hm4; simp only [])
          go_roundw
          case rel => exact ⟨bb + 1, _, _, f.met, f.steps, by go_num, by omega, by omega, by rw [HSR.out, HNN.out, HS2.out], by have := HOK.out.met; rw [this, HN.out], HOK.out.steps, by have := HM4.out.mb; rw [HFN.out] at this; exact this⟩
          case measure => simp [intOf]; omega
    · obtain rfl : bb = nt + 1 := by omega
      have HMR := Lib.hid hmb
      have HF4 := Lib.hid (HF1.out.below hmb.below HF1.out.lt)
      have HB4 := Lib.hid (HB1.out.trans (hmb.below.mono HB1.out.size))
      have d7 : wr.cell? ⟨w1.heap.size + 1, 7, none⟩ = some (.int .i64 (steps : Int)) := hmb.mach.cell 7
      have r0 : wr.cell? ⟨w.heap.size + 1, 0, none⟩ = some (.bool false) := HF4.out.cell 0
      have r1 : wr.cell? ⟨w.heap.size + 1, 1, none⟩ = some (.slice none 0 0) := HF4.out.cell 1
      have r2 : wr.cell? ⟨w.heap.size + 1, 2, none⟩ = some (.int .i64 0) := HF4.out.cell 2
      have r3 : wr.cell? ⟨w.heap.size + 1, 3, none⟩ = some (.int .i64 0) := HF4.out.cell 3
      have s0 := HF4.out.frozen 0
      have s1 := HF4.out.frozen 1
      have s2 := HF4.out.frozen 2
      have s3 := HF4.out.frozen 3
      have s4 := HF4.out.lt
      clear hmb
      go_wp2_with fail
      have hk := fun u0 u1 u2 u3 => (((Kept.setCell (w := wr) ⟨w.heap.size + 1, 0, none⟩ u0).trans (Kept.setCell ⟨w.heap.size + 1, 1, none⟩ u1)).trans (Kept.setCell ⟨w.heap.size + 1, 2, none⟩ u2)).trans (Kept.setCell ⟨w.heap.size + 1, 3, none⟩ u3)
      refine bodyPost_ret (results_cell_tmp_row rfl _ _ (w.heap.size + 1) _ #[.bool false, .slice none 0 0, .int .i64 0, .int .i64 (steps : Int)] d rfl ((((HF4.out.set_ 0 (.bool false)).set_ 1 (.slice none 0 0)).set_ 2 (.int .i64 0)).set_ 3 (.int .i64 (steps : Int))) hu hd size_found) rfl ?_
      rw [Int.toNat_natCast, HN.out, HSR.out, HTL.out, Nat.sub_self, search]
      exact ⟨_, rfl, World.ownsRow_nil _ _ _ _, Below.kept HB4.out (hk _ _ _ _) (by intro g hg; simp at hg; omega) HB4.out.size⟩


set_option maxRecDepth 1000000 in
set_option maxHeartbeats 4000000 in
theorem refRun_any (A At : Option Addr) (n c nt ct : Nat) (L : List InV) (t : List Int) (start caps at_ : Int) (anch : Bool) (w : World) (hP : ReadsP w w.heap.size A n c L) (hT : Reads w w.heap.size 1 At nt ct (t.map (Value.int .i64)))
    
    : Calls Try.prog 6 #[.agg #[.slice A n c, .int .i64 start, .int .i64 caps], .slice At nt ct, .int .i64 at_, .bool anch] w fun e w' => RunPost w.heap.size w (runR ⟨insL L, start, caps⟩ t at_ anch) e w' := by
  have htl : t.length = nt := by have := hT.len; simpa using this
  have hnl : (insL L).length = n := by rw [insL, List.length_map]; exact hP.len
  unfold runR
  simp only [htl, hnl]
  by_cases h1 : 4194304 < nt
  · rw [if_pos h1]
    exact refRun_long A At n c nt ct L t start caps at_ anch w hP hT h1
  rw [if_neg h1]
  cases hc : checkB ⟨insL L, start, caps⟩ with
  | false =>
    rw [if_pos rfl]
    exact refRun_prog A At n c nt ct L t start caps at_ anch w hP hT (by omega) hc
  | true =>
    rw [if_neg (by decide)]
    by_cases h2 : at_ < 0 ∨ (nt : Int) < at_
    · rw [if_pos h2]
      exact refRun_arg A At n c nt ct L t start caps at_ anch w hP hT (by omega) hc h2
    rw [if_neg h2]
    by_cases h3 : 16777216 < n * (nt - at_.toNat + 1)
    · rw [if_pos h3]
      exact refRun_big A At n c nt ct L t start caps at_ anch w hP hT (by omega) hc (by omega) h3
    rw [if_neg h3]
    have := refRun_main A At n c nt ct L t start caps at_ anch w hP hT (by omega) hc (by omega) (by omega)
    rw [htl, hnl] at this
    exact this
end Go.Proofs.Yteiggbbljgkloaa
