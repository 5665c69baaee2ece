/- pike.Run: what it answers. -/
import Derived.Test.YteiggbbljgkloaaQPikeLoop
import Derived.Test.YteiggbbljgkloaaQRunMain
import Derived.Test.YteiggbbljgkloaaQSetM
import Derived.WalkMore
import Derived.Deep.RegionHeldLaw
import Derived.Deep.RegionLaw
import Derived.Deep.Cut
namespace Go.Proofs.Yteiggbbljgkloaa
open Go.RowKit Go.Proofs.Yteiggbbljgkloaa.Mach

/-- What pike.Run gives. -/
def PikePost (w : World) (err : Int) (found : Option (List Int × Int)) (e : Ending) (w' : World) : Prop :=
  ∃ (cv : Value) (st : Int), e = .returned (.tuple #[.agg #[.bool found.isSome, cv, .int .i64 (found.elim 0 (·.2)), .int .i64 st], .int .i64 err]) ∧ w'.ownsRow w.heap.size 3 1 cv (found.elim [] (·.1)).length ((found.elim [] (·.1)).map (Value.int .i64)) ∧ Below w.heap.size w w'

set_option maxRecDepth 1000000 in
set_option maxHeartbeats 4000000 in
theorem pike_long (A At : Option Addr) (n c nt ct : Nat) (L : List InV) (t : List Int) (start caps at_ : Int) (anch : Bool) (w : World) (hP : ReadsP w w.heap.size A n c L) (hT : Reads w w.heap.size 1 At nt ct (t.map (Value.int .i64)))
    (hl : 4194304 < nt)
    : Calls Try.prog 14 #[.agg #[.slice A n c, .int .i64 start, .int .i64 caps], .slice At nt ct, .int .i64 at_, .bool anch] w fun e w' => PikePost w 2 none e w' := by
  have hbW : Below w.heap.size w ((w.alloc (.cells #[.slice A n c, .int .i64 start, .int .i64 caps] 24)).alloc (.cells #[.bool false, .slice none 0 0, .int .i64 0, .int .i64 0] 30)) := ((Below.refl _ _).alloc (Nat.le_refl _) _).alloc (by simp) _
  have hPB : Blk ((w.alloc (.cells #[.slice A n c, .int .i64 start, .int .i64 caps] 24)).alloc (.cells #[.bool false, .slice none 0 0, .int .i64 0, .int .i64 0] 30)) w.heap.size 24 [.slice A n c, .int .i64 start, .int .i64 caps] := (Blk.new w _ [.slice A n c, .int .i64 start, .int .i64 caps]).alloc _
  have hFB : Blk ((w.alloc (.cells #[.slice A n c, .int .i64 start, .int .i64 caps] 24)).alloc (.cells #[.bool false, .slice none 0 0, .int .i64 0, .int .i64 0] 30)) (w.heap.size + 1) 30 [.bool false, .slice none 0 0, .int .i64 0, .int .i64 0] := by
    have := Blk.new (w.alloc (.cells #[.slice A n c, .int .i64 start, .int .i64 caps] 24)) 30 [.bool false, .slice none 0 0, .int .i64 0, .int .i64 0]
    rw [show (w.alloc (.cells #[.slice A n c, .int .i64 start, .int .i64 caps] 24)).heap.size = w.heap.size + 1 from by simp] at this
    exact this
  have HBW := Lib.hid hbW
  have HPB := Lib.hid hPB
  have HFB := Lib.hid hFB
  have hl2 : (4194304 : Int) < (nt : Int) := by omega
  clear hbW hPB hFB hl hP hT
  have HB1 := HBW
  have HF1 := HFB
  have r0 : ((w.alloc (.cells #[.slice A n c, .int .i64 start, .int .i64 caps] 24)).alloc (.cells #[.bool false, .slice none 0 0, .int .i64 0, .int .i64 0] 30)).cell? ⟨w.heap.size + 1, 0, none⟩ = some (.bool false) := HF1.out.cell 0
  have r1 : ((w.alloc (.cells #[.slice A n c, .int .i64 start, .int .i64 caps] 24)).alloc (.cells #[.bool false, .slice none 0 0, .int .i64 0, .int .i64 0] 30)).cell? ⟨w.heap.size + 1, 1, none⟩ = some (.slice none 0 0) := HF1.out.cell 1
  have r2 : ((w.alloc (.cells #[.slice A n c, .int .i64 start, .int .i64 caps] 24)).alloc (.cells #[.bool false, .slice none 0 0, .int .i64 0, .int .i64 0] 30)).cell? ⟨w.heap.size + 1, 2, none⟩ = some (.int .i64 0) := HF1.out.cell 2
  have r3 : ((w.alloc (.cells #[.slice A n c, .int .i64 start, .int .i64 caps] 24)).alloc (.cells #[.bool false, .slice none 0 0, .int .i64 0, .int .i64 0] 30)).cell? ⟨w.heap.size + 1, 3, none⟩ = some (.int .i64 0) := HF1.out.cell 3
  have s0 := HF1.out.frozen 0
  have s1 := HF1.out.frozen 1
  have s2 := HF1.out.frozen 2
  have s3 := HF1.out.frozen 3
  have s4 := HF1.out.lt
  clear HPB
  go_enter Try.func14, Try.ntmps14
  go_wp2_with fail
  obtain ⟨d, hu, hd⟩ := und_found
  refine bodyPost_ret (results_cell_tmp_row rfl _ _ (w.heap.size + 1) _ #[.bool false, .slice none 0 0, .int .i64 0, .int .i64 0] d rfl HF1.out hu hd size_found) rfl ?_
  exact ⟨.slice none 0 0, 0, rfl, World.ownsRow_nil _ _ _ _, HB1.out⟩

set_option maxRecDepth 1000000 in
set_option maxHeartbeats 4000000 in
theorem pike_prog (A At : Option Addr) (n c nt ct : Nat) (L : List InV) (t : List Int) (start caps at_ : Int) (anch : Bool) (w : World) (hP : ReadsP w w.heap.size A n c L) (hT : Reads w w.heap.size 1 At nt ct (t.map (Value.int .i64)))
    (hl : nt ≤ 4194304) (hc : checkB ⟨insL L, start, caps⟩ = false)
    : Calls Try.prog 14 #[.agg #[.slice A n c, .int .i64 start, .int .i64 caps], .slice At nt ct, .int .i64 at_, .bool anch] w fun e w' => PikePost w 90 none e w' := by
  have hbW : Below w.heap.size w ((w.alloc (.cells #[.slice A n c, .int .i64 start, .int .i64 caps] 24)).alloc (.cells #[.bool false, .slice none 0 0, .int .i64 0, .int .i64 0] 30)) := ((Below.refl _ _).alloc (Nat.le_refl _) _).alloc (by simp) _
  have hPB : Blk ((w.alloc (.cells #[.slice A n c, .int .i64 start, .int .i64 caps] 24)).alloc (.cells #[.bool false, .slice none 0 0, .int .i64 0, .int .i64 0] 30)) w.heap.size 24 [.slice A n c, .int .i64 start, .int .i64 caps] := (Blk.new w _ [.slice A n c, .int .i64 start, .int .i64 caps]).alloc _
  have hFB : Blk ((w.alloc (.cells #[.slice A n c, .int .i64 start, .int .i64 caps] 24)).alloc (.cells #[.bool false, .slice none 0 0, .int .i64 0, .int .i64 0] 30)) (w.heap.size + 1) 30 [.bool false, .slice none 0 0, .int .i64 0, .int .i64 0] := by
    have := Blk.new (w.alloc (.cells #[.slice A n c, .int .i64 start, .int .i64 caps] 24)) 30 [.bool false, .slice none 0 0, .int .i64 0, .int .i64 0]
    rw [show (w.alloc (.cells #[.slice A n c, .int .i64 start, .int .i64 caps] 24)).heap.size = w.heap.size + 1 from by simp] at this
    exact this
  have HBW := Lib.hid hbW
  have HPB := Lib.hid hPB
  have HFB := Lib.hid hFB
  have hl2 : ¬ ((4194304 : Int) < (nt : Int)) := by omega
  have HCH := Lib.hid (check_any A n c L start caps ((w.alloc (.cells #[.slice A n c, .int .i64 start, .int .i64 caps] 24)).alloc (.cells #[.bool false, .slice none 0 0, .int .i64 0, .int .i64 0] 30)) ((hP.below hbW).more hbW.size))
  rw [show chkE ⟨insL L, start, caps⟩ = 90 from by unfold chkE; rw [hc]; rfl] at HCH
  clear hbW hPB hFB hl hP hT hc
  go_enter Try.func14, Try.ntmps14
  go_wp2_with (go_at_call 19; refine HCH.out.mono ?_; rintro e w1 ⟨rfl, hb1⟩; have HB1 := Lib.hid (HBW.out.trans (hb1.mono HBW.out.size)); have HF1 := Lib.hid (HFB.out.below hb1 HFB.out.lt); have HP1 := Lib.hid (HPB.out.below hb1 HPB.out.lt); have r0 : w1.cell? ⟨w.heap.size + 1, 0, none⟩ = some (.bool false) := HF1.out.cell 0; have r1 : w1.cell? ⟨w.heap.size + 1, 1, none⟩ = some (.slice none 0 0) := HF1.out.cell 1; have r2 : w1.cell? ⟨w.heap.size + 1, 2, none⟩ = some (.int .i64 0) := HF1.out.cell 2; have r3 : w1.cell? ⟨w.heap.size + 1, 3, none⟩ = some (.int .i64 0) := HF1.out.cell 3; have s0 := HF1.out.frozen 0; have s1 := HF1.out.frozen 1; have s2 := HF1.out.frozen 2; have s3 := HF1.out.frozen 3; have s4 := HF1.out.lt; have p0 : w1.cell? ⟨w.heap.size, 0, none⟩ = some (.slice A n c) := HP1.out.cell 0; have p1 : w1.cell? ⟨w.heap.size, 1, none⟩ = some (.int .i64 start) := HP1.out.cell 1; have p2 : w1.cell? ⟨w.heap.size, 2, none⟩ = some (.int .i64 caps) := HP1.out.cell 2; have p4 := HP1.out.lt; clear hb1; simp only [])
  obtain ⟨d, hu, hd⟩ := und_found
  (try simp only [Exit.inBlock, Exit.then, Exit.noGoto])
  have hk := fun u0 u1 u2 u3 => (((Kept.setCell (w := w1) ⟨w.heap.size + 1, 0, none⟩ u0).trans (Kept.setCell ⟨w.heap.size + 1, 1, none⟩ u1)).trans (Kept.setCell ⟨w.heap.size + 1, 2, none⟩ u2)).trans (Kept.setCell ⟨w.heap.size + 1, 3, none⟩ u3)
  refine bodyPost_ret (results_cell_tmp_row rfl _ _ (w.heap.size + 1) _ #[.bool false, .slice none 0 0, .int .i64 0, .int .i64 0] d rfl ((((HF1.out.set_ 0 (.bool false)).set_ 1 (.slice none 0 0)).set_ 2 (.int .i64 0)).set_ 3 (.int .i64 0)) hu hd size_found) rfl ?_
  exact ⟨.slice none 0 0, 0, rfl, World.ownsRow_nil _ _ _ _, Below.kept HB1.out (hk _ _ _ _) (by intro g hg; simp at hg; omega) HB1.out.size⟩

set_option maxRecDepth 1000000 in
set_option maxHeartbeats 4000000 in
theorem pike_arg (A At : Option Addr) (n c nt ct : Nat) (L : List InV) (t : List Int) (start caps at_ : Int) (anch : Bool) (w : World) (hP : ReadsP w w.heap.size A n c L) (hT : Reads w w.heap.size 1 At nt ct (t.map (Value.int .i64)))
    (hl : nt ≤ 4194304) (hc : checkB ⟨insL L, start, caps⟩ = true) (ha : at_ < 0 ∨ (nt : Int) < at_)
    : Calls Try.prog 14 #[.agg #[.slice A n c, .int .i64 start, .int .i64 caps], .slice At nt ct, .int .i64 at_, .bool anch] w fun e w' => PikePost w 1 none e w' := by
  have hbW : Below w.heap.size w ((w.alloc (.cells #[.slice A n c, .int .i64 start, .int .i64 caps] 24)).alloc (.cells #[.bool false, .slice none 0 0, .int .i64 0, .int .i64 0] 30)) := ((Below.refl _ _).alloc (Nat.le_refl _) _).alloc (by simp) _
  have hPB : Blk ((w.alloc (.cells #[.slice A n c, .int .i64 start, .int .i64 caps] 24)).alloc (.cells #[.bool false, .slice none 0 0, .int .i64 0, .int .i64 0] 30)) w.heap.size 24 [.slice A n c, .int .i64 start, .int .i64 caps] := (Blk.new w _ [.slice A n c, .int .i64 start, .int .i64 caps]).alloc _
  have hFB : Blk ((w.alloc (.cells #[.slice A n c, .int .i64 start, .int .i64 caps] 24)).alloc (.cells #[.bool false, .slice none 0 0, .int .i64 0, .int .i64 0] 30)) (w.heap.size + 1) 30 [.bool false, .slice none 0 0, .int .i64 0, .int .i64 0] := by
    have := Blk.new (w.alloc (.cells #[.slice A n c, .int .i64 start, .int .i64 caps] 24)) 30 [.bool false, .slice none 0 0, .int .i64 0, .int .i64 0]
    rw [show (w.alloc (.cells #[.slice A n c, .int .i64 start, .int .i64 caps] 24)).heap.size = w.heap.size + 1 from by simp] at this
    exact this
  have HBW := Lib.hid hbW
  have HPB := Lib.hid hPB
  have HFB := Lib.hid hFB
  have hl2 : ¬ ((4194304 : Int) < (nt : Int)) := by omega
  have HCH := Lib.hid (check_any A n c L start caps ((w.alloc (.cells #[.slice A n c, .int .i64 start, .int .i64 caps] 24)).alloc (.cells #[.bool false, .slice none 0 0, .int .i64 0, .int .i64 0] 30)) ((hP.below hbW).more hbW.size))
  rw [show chkE ⟨insL L, start, caps⟩ = 0 from by unfold chkE; rw [hc]; rfl] at HCH
  clear hbW hPB hFB hl hP hT hc
  rcases ha with ha | ha
  all_goals
    go_enter Try.func14, Try.ntmps14
    go_wp2_with (go_at_call 19; refine HCH.out.mono ?_; rintro e w1 ⟨rfl, hb1⟩; have HB1 := Lib.hid (HBW.out.trans (hb1.mono HBW.out.size)); have HF1 := Lib.hid (HFB.out.below hb1 HFB.out.lt); have HP1 := Lib.hid (HPB.out.below hb1 HPB.out.lt); have r0 : w1.cell? ⟨w.heap.size + 1, 0, none⟩ = some (.bool false) := HF1.out.cell 0; have r1 : w1.cell? ⟨w.heap.size + 1, 1, none⟩ = some (.slice none 0 0) := HF1.out.cell 1; have r2 : w1.cell? ⟨w.heap.size + 1, 2, none⟩ = some (.int .i64 0) := HF1.out.cell 2; have r3 : w1.cell? ⟨w.heap.size + 1, 3, none⟩ = some (.int .i64 0) := HF1.out.cell 3; have s0 := HF1.out.frozen 0; have s1 := HF1.out.frozen 1; have s2 := HF1.out.frozen 2; have s3 := HF1.out.frozen 3; have s4 := HF1.out.lt; have p0 : w1.cell? ⟨w.heap.size, 0, none⟩ = some (.slice A n c) := HP1.out.cell 0; have p1 : w1.cell? ⟨w.heap.size, 1, none⟩ = some (.int .i64 start) := HP1.out.cell 1; have p2 : w1.cell? ⟨w.heap.size, 2, none⟩ = some (.int .i64 caps) := HP1.out.cell 2; have p4 := HP1.out.lt; clear hb1; simp only [])
  all_goals
    obtain ⟨d, hu, hd⟩ := und_found
    (try simp only [Exit.inBlock, Exit.then, Exit.noGoto])
    have hk := fun u0 u1 u2 u3 => (((Kept.setCell (w := w1) ⟨w.heap.size + 1, 0, none⟩ u0).trans (Kept.setCell ⟨w.heap.size + 1, 1, none⟩ u1)).trans (Kept.setCell ⟨w.heap.size + 1, 2, none⟩ u2)).trans (Kept.setCell ⟨w.heap.size + 1, 3, none⟩ u3)
    refine bodyPost_ret (results_cell_tmp_row rfl _ _ (w.heap.size + 1) _ #[.bool false, .slice none 0 0, .int .i64 0, .int .i64 0] d rfl ((((HF1.out.set_ 0 (.bool false)).set_ 1 (.slice none 0 0)).set_ 2 (.int .i64 0)).set_ 3 (.int .i64 0)) hu hd size_found) rfl ?_
    exact ⟨.slice none 0 0, 0, rfl, World.ownsRow_nil _ _ _ _, Below.kept HB1.out (hk _ _ _ _) (by intro g hg; simp at hg; omega) HB1.out.size⟩

set_option maxRecDepth 1000000 in
set_option maxHeartbeats 4000000 in
theorem pike_main (A At : Option Addr) (n c nt ct : Nat) (L : List InV) (t : List Int) (start caps at_ : Int) (anch : Bool) (w : World) (hP : ReadsP w w.heap.size A n c L) (hT : Reads w w.heap.size 1 At nt ct (t.map (Value.int .i64)))
    (hl : nt ≤ 4194304) (hc : checkB ⟨insL L, start, caps⟩ = true) (ha : 0 ≤ at_ ∧ at_ ≤ (nt : Int))
    : Calls Try.prog 14 #[.agg #[.slice A n c, .int .i64 start, .int .i64 caps], .slice At nt ct, .int .i64 at_, .bool anch] w fun e w' => ∃ found, PikePost w 0 found e w' ∧ Lock ⟨insL L, start, caps⟩ t at_.toNat [startTh ⟨insL L, start, caps⟩] (!anch) found := by
  obtain ⟨k0, rfl⟩ : ∃ k0 : Nat, at_ = (k0 : Int) := ⟨at_.toNat, by omega⟩
  have hk0 : k0 ≤ nt := by omega
  have hat1 : ¬ ((k0 : Int) < 0) := by omega
  have hat2 : ¬ ((nt : Int) < (k0 : Int)) := by omega
  have hl2 : ¬ ((4194304 : Int) < (nt : Int)) := by omega
  have hnb : n ≤ 20000 := by
    have := (head_of hc).2.1
    have hl := hP.len
    simp only [insL, List.length_map] at this
    omega
  have hbW : Below w.heap.size w ((w.alloc (.cells #[.slice A n c, .int .i64 start, .int .i64 caps] 24)).alloc (.cells #[.bool false, .slice none 0 0, .int .i64 0, .int .i64 0] 30)) := ((Below.refl _ _).alloc (Nat.le_refl _) _).alloc (by simp) _
  have hPB : Blk ((w.alloc (.cells #[.slice A n c, .int .i64 start, .int .i64 caps] 24)).alloc (.cells #[.bool false, .slice none 0 0, .int .i64 0, .int .i64 0] 30)) w.heap.size 24 [.slice A n c, .int .i64 start, .int .i64 caps] := (Blk.new w _ [.slice A n c, .int .i64 start, .int .i64 caps]).alloc _
  have hFB : Blk ((w.alloc (.cells #[.slice A n c, .int .i64 start, .int .i64 caps] 24)).alloc (.cells #[.bool false, .slice none 0 0, .int .i64 0, .int .i64 0] 30)) (w.heap.size + 1) 30 [.bool false, .slice none 0 0, .int .i64 0, .int .i64 0] := by
    have := Blk.new (w.alloc (.cells #[.slice A n c, .int .i64 start, .int .i64 caps] 24)) 30 [.bool false, .slice none 0 0, .int .i64 0, .int .i64 0]
    rw [show (w.alloc (.cells #[.slice A n c, .int .i64 start, .int .i64 caps] 24)).heap.size = w.heap.size + 1 from by simp] at this
    exact this
  have HBW := Lib.hid hbW
  have HPB := Lib.hid hPB
  have HFB := Lib.hid hFB
  have HCH := Lib.hid (check_any A n c L start caps ((w.alloc (.cells #[.slice A n c, .int .i64 start, .int .i64 caps] 24)).alloc (.cells #[.bool false, .slice none 0 0, .int .i64 0, .int .i64 0] 30)) ((hP.below hbW).more hbW.size))
  rw [show chkE ⟨insL L, start, caps⟩ = 0 from by unfold chkE; rw [hc]; rfl] at HCH
  have HL := Lib.hid hl
  have HP := Lib.hid hP
  have HT := Lib.hid hT
  have HC := Lib.hid hc
  clear hbW hPB hFB hl hP hT hc ha
  go_enter Try.func14, Try.ntmps14
  go_wp2_with (go_at_call 19; refine HCH.out.mono ?_; rintro e w1 ⟨rfl, hb1⟩; have HB1 := Lib.hid (HBW.out.trans (hb1.mono HBW.out.size)); have HF1 := Lib.hid (HFB.out.below hb1 HFB.out.lt); have HP1 := Lib.hid (HPB.out.below hb1 HPB.out.lt); have r0 : w1.cell? ⟨w.heap.size + 1, 0, none⟩ = some (.bool false) := HF1.out.cell 0; have r1 : w1.cell? ⟨w.heap.size + 1, 1, none⟩ = some (.slice none 0 0) := HF1.out.cell 1; have r2 : w1.cell? ⟨w.heap.size + 1, 2, none⟩ = some (.int .i64 0) := HF1.out.cell 2; have r3 : w1.cell? ⟨w.heap.size + 1, 3, none⟩ = some (.int .i64 0) := HF1.out.cell 3; have s0 := HF1.out.frozen 0; have s1 := HF1.out.frozen 1; have s2 := HF1.out.frozen 2; have s3 := HF1.out.frozen 3; have s4 := HF1.out.lt; have p0 : w1.cell? ⟨w.heap.size, 0, none⟩ = some (.slice A n c) := HP1.out.cell 0; have p1 : w1.cell? ⟨w.heap.size, 1, none⟩ = some (.int .i64 start) := HP1.out.cell 1; have p2 : w1.cell? ⟨w.heap.size, 2, none⟩ = some (.int .i64 caps) := HP1.out.cell 2; have p4 := HP1.out.lt; clear hb1; simp only [])
  have HNEW := Lib.hid (setNew_any n w1.drew hnb)
  have kA : w1.drew.cell? ⟨w.heap.size, 0, none⟩ = some (.slice A n c) ∧ w1.drew.cell? ⟨w.heap.size, 1, none⟩ = some (.int .i64 start) ∧ w1.drew.cell? ⟨w.heap.size, 2, none⟩ = some (.int .i64 caps) := ⟨p0, p1, p2⟩
  refine wp_region_noPanic ?_
  go_region_held_law (fun w' => w'.cell? ⟨w.heap.size, 0, none⟩ = some (.slice A n c) ∧ w'.cell? ⟨w.heap.size, 1, none⟩ = some (.int .i64 start) ∧ w'.cell? ⟨w.heap.size, 2, none⟩ = some (.int .i64 caps)) (first | exact kA | exact kB | exact kC) (first | (go_at_call 27; refine HNEW.out.mono ?_; rintro e w2 ⟨rfl, hs2, hb2⟩; have HP2 := Lib.hid (HP1.out.drew.below hb2 HP1.out.lt); have HF2 := Lib.hid (HF1.out.drew.below hb2 HF1.out.lt); have HB2 := Lib.hid ((bdrewN (Below.refl w1.heap.size w1) 1).trans hb2); have HS2 := Lib.hid hs2; have HSZ2 := Lib.hid hb2.size; have kB : w2.cell? ⟨w.heap.size, 0, none⟩ = some (.slice A n c) ∧ w2.cell? ⟨w.heap.size, 1, none⟩ = some (.int .i64 start) ∧ w2.cell? ⟨w.heap.size, 2, none⟩ = some (.int .i64 caps) := ⟨HP2.out.cell 0, HP2.out.cell 1, HP2.out.cell 2⟩; have kC : (w2.alloc (.cells #[.slice A n c, .int .i64 start, .int .i64 caps, .slice At nt ct, .int .i64 0, .int .i64 0, .pointer (some ⟨w1.heap.size + 1, 0, none⟩), .slice none 0 0, .bool false, .slice none 0 0, .int .i64 0, .int .i64 0, .int .i64 0] 74)).cell? ⟨w.heap.size, 0, none⟩ = some (.slice A n c) ∧ (w2.alloc (.cells #[.slice A n c, .int .i64 start, .int .i64 caps, .slice At nt ct, .int .i64 0, .int .i64 0, .pointer (some ⟨w1.heap.size + 1, 0, none⟩), .slice none 0 0, .bool false, .slice none 0 0, .int .i64 0, .int .i64 0, .int .i64 0] 74)).cell? ⟨w.heap.size, 1, none⟩ = some (.int .i64 start) ∧ (w2.alloc (.cells #[.slice A n c, .int .i64 start, .int .i64 caps, .slice At nt ct, .int .i64 0, .int .i64 0, .pointer (some ⟨w1.heap.size + 1, 0, none⟩), .slice none 0 0, .bool false, .slice none 0 0, .int .i64 0, .int .i64 0, .int .i64 0] 74)).cell? ⟨w.heap.size, 2, none⟩ = some (.int .i64 caps) := ⟨(HP2.out.alloc _).cell 0, (HP2.out.alloc _).cell 1, (HP2.out.alloc _).cell 2⟩; clear hs2 hb2; simp only []))
  all_goals
    refine NoPanic.normal ?_
  obtain ⟨x, hx⟩ : ∃ x : Px, x = ⟨w1, w2.heap.size, w1.heap.size + 1, w1.heap.size, A, n, c, start, caps, At, nt, ct, caps.toNat⟩ := ⟨_, rfl⟩
  obtain ⟨p, hp⟩ : ∃ p : Prg, p = ⟨insL L, start, caps⟩ := ⟨_, rfl⟩
  have hpk : Pk x (.slice none 0 0) (.slice none 0 0) [] [] 0 0 none 0 (w2.alloc (.cells #[.slice A n c, .int .i64 start, .int .i64 caps, .slice At nt ct, .int .i64 0, .int .i64 0, .pointer (some ⟨w1.heap.size + 1, 0, none⟩), .slice none 0 0, .bool false, .slice none 0 0, .int .i64 0, .int .i64 0, .int .i64 0] 74)) := by
    have h1 := HB1.out.size
    have h2 : w1.heap.size ≤ w2.heap.size := HSZ2.out
    obtain ⟨ats, g1, g2, g3⟩ := HS2.out.at_
    subst hx
    refine ⟨HB2.out.alloc h2 _, h2, ?_, ⟨HS2.out.blk.alloc _, ⟨ats, g1, g2.alloc _, g3⟩, World.ownsRow_nil _ _ _ _, ⟨Nat.le_succ _, Nat.le_refl _⟩, by simp [Value.ownBlock]⟩, World.ownsRow_nil _ _ _ _, by simp, by simp⟩
    exact Blk.new w2 74 [.slice A n c, .int .i64 start, .int .i64 caps, .slice At nt ct, .int .i64 0, .int .i64 0, .pointer (some ⟨w1.heap.size + 1, 0, none⟩), .slice none 0 0, .bool false, .slice none 0 0, .int .i64 0, .int .i64 0, .int .i64 0]
  have hkx : Kx x p t L := by subst hx; subst hp; exact ⟨(HP.out.below HB1.out).more HB1.out.size, (HT.out.below HB1.out).more HB1.out.size, rfl, HC.out, HL.out, rfl, rfl, rfl⟩
  have hrb : w2.heap.size = x.rb := by rw [hx]
  have hxw : x.w0 = w1 := by rw [hx]
  have htl : t.length = nt := by have := HT.out.len; simpa using this
  have HX := Lib.hid hkx
  have HPK := Lib.hid hpk
  have HXW := Lib.hid hxw
  have HXE := Lib.hid hx
  have HPE := Lib.hid hp
  have HTL := Lib.hid htl
  clear hpk hkx hxw kA kB kC p0 p1 p2 p4 r0 r1 r2 r3 s0 s1 s2 s3 s4 hx hp htl
  rw [hrb]
  generalize (w2.alloc (.cells #[.slice A n c, .int .i64 start, .int .i64 caps, .slice At nt ct, .int .i64 0, .int .i64 0, .pointer (some ⟨w1.heap.size + 1, 0, none⟩), .slice none 0 0, .bool false, .slice none 0 0, .int .i64 0, .int .i64 0, .int .i64 0] 74)) = w3 at *
  have c4 : w3.cell? ⟨x.rb, 4, none⟩ = some (.int .i64 0) := HPK.out.run.cell 4
  have c4f := HPK.out.run.frozen 4
  have c4l := HPK.out.run.lt
  go_wp2_with fail
  have hk0x : k0 ≤ x.nt := by rw [HXE.out]; exact hk0
  have h4 := HPK.out.placed (k2 := k0) rfl
  have HP4 := Lib.hid h4
  clear h4 c4 c4f c4l
  generalize w3.setCell ⟨x.rb, 4, none⟩ (.int .i64 (k0 : Int)) = w4 at *
  have HL4 := Lib.hid HX.out.ntl
  obtain rfl : x.At = At := by rw [HXE.out]
  obtain rfl : x.nt = nt := by rw [HXE.out]
  obtain rfl : x.ct = ct := by rw [HXE.out]
  have HBB := HB1
  refine pike_loop HX.out _ _ _ _ _ _ _ _ _ _ _ _ _ _ _ _ _ _ _ _ _ _ _ _ _ _ _ _ _ _ _ _ _ _ _ _ _ _ _ _ _ _ _ _ _ _ _ _ _ _ _ _ _ _ _ _ _ _ _ _ _ _ _ _ _ _ _ _ _ _ _ _ _ _ _ _ _ _ _ _ _ _ _ _ _ _ _ _ _ _ _ _ _ _ _ _ _ _ _ _ _ _ _ hk0x HP4.out HL4.out ?_
  intro u0 u4 u5 u6 u7 u9 u10 u13 u14 u15 u16 u17 u18 u19 u20 u21 u22 u23 u24 u25 u26 u27 u28 u29 u30 u31 u32 u33 u34 u35 u36 u37 u38 u39 u40 u41 u42 u43 u44 u45 u46 u47 u48 u49 u50 u51 u52 u53 u54 u55 u56 u57 u58 u59 u60 u61 u62 u63 u64 u65 u66 u67 u68 u69 u70 u71 u72 u73 u74 u75 u76 u77 u78 u79 u80 u81 u82 u83 u84 u85 u86 u87 u88 u89 u90 u91 u92 u93 u94 u95 u96 u97 u98 u99 u100 u101 u102 u103 u104 u105 u106 u107 u108 NV w5 hd
  obtain ⟨k, LV, met, now, bits, st, f, hpk, hlk⟩ := hd
  have hbw : Below w1.heap.size w1 w5 := by
    have := hpk.below
    unfold Px.B at this
    rw [HXW.out] at this
    exact this
  have hF5 := HF1.out.below hbw HF1.out.lt
  have HB5 := Lib.hid (HBB.out.trans (hbw.mono HBB.out.size))
  have HF5 := Lib.hid hF5
  have r0 : w5.cell? ⟨w.heap.size + 1, 0, none⟩ = some (.bool false) := HF5.out.cell 0
  have r1 : w5.cell? ⟨w.heap.size + 1, 1, none⟩ = some (.slice none 0 0) := HF5.out.cell 1
  have r2 : w5.cell? ⟨w.heap.size + 1, 2, none⟩ = some (.int .i64 0) := HF5.out.cell 2
  have r3 : w5.cell? ⟨w.heap.size + 1, 3, none⟩ = some (.int .i64 0) := HF5.out.cell 3
  have s0 := HF5.out.frozen 0
  have s1 := HF5.out.frozen 1
  have s2 := HF5.out.frozen 2
  have s3 := HF5.out.frozen 3
  have s4 := HF5.out.lt
  have r12 : w5.cell? ⟨x.rb, 12, none⟩ = some (.int .i64 st) := hpk.run.cell 12
  have r11 : w5.cell? ⟨x.rb, 11, none⟩ = some (.int .i64 0) := hpk.run.cell 11
  have r5 := hpk.run.lt
  have HPK := Lib.hid hpk
  have HLK := Lib.hid hlk
  cases f with
  | none =>
    have r8 : w5.cell? ⟨x.rb, 8, none⟩ = some (.bool false) := hpk.run.cell 8
    have r9 : w5.cell? ⟨x.rb, 9, none⟩ = some (.slice none 0 0) := hpk.run.cell 9
    have r10 : w5.cell? ⟨x.rb, 10, none⟩ = some (.int .i64 0) := hpk.run.cell 10
    clear hpk hlk hbw hF5
    go_wp2_with fail
    obtain ⟨dd, hu, hd⟩ := und_found
    have hk := fun u0 u1 u2 u3 => (((Kept.setCell (w := w5) ⟨w.heap.size + 1, 0, none⟩ u0).trans (Kept.setCell ⟨w.heap.size + 1, 1, none⟩ u1)).trans (Kept.setCell ⟨w.heap.size + 1, 2, none⟩ u2)).trans (Kept.setCell ⟨w.heap.size + 1, 3, none⟩ u3)
    have hbk := Below.kept HB5.out (hk (.bool false) (.slice none 0 0) (.int .i64 0) (.int .i64 st)) (by intro g hg; simp at hg; omega) HB5.out.size
    refine bodyPost_ret (results_cell_tmp_row rfl _ _ (w.heap.size + 1) _ #[.bool false, .slice none 0 0, .int .i64 0, .int .i64 st] dd rfl (((((HF5.out.set_ 0 (.bool false)).set_ 1 (.slice none 0 0)).set_ 2 (.int .i64 0)).set_ 3 (.int .i64 st)).alloc _) hu hd size_found) rfl ?_
    refine ⟨none, ⟨.slice none 0 0, st, rfl, World.ownsRow_nil _ _ _ _, hbk.alloc hbk.size _⟩, ?_⟩
    rw [Int.toNat_natCast, ← HPE.out]
    exact HLK.out
  | some d =>
    have r8 : w5.cell? ⟨x.rb, 8, none⟩ = some (.bool true) := hpk.run.cell 8
    have r9 : w5.cell? ⟨x.rb, 9, none⟩ = some (.slice (some ⟨d.g, 0, none⟩) x.cl x.cl) := hpk.run.cell 9
    have r10 : w5.cell? ⟨x.rb, 10, none⟩ = some (.int .i64 d.a) := hpk.run.cell 10
    have hd := hpk.fnd d rfl
    have hcl2 : 2 ≤ x.cl ∧ x.cl ≤ 1002 := by have := head_of HX.out.chk; have := HX.out.cl; omega
    clear hpk hlk hbw hF5
    go_upto_region 17 with fail
    have hO6 : Blk (w5.alloc (.cells #[.bool true, .slice (some ⟨d.g, 0, none⟩) x.cl x.cl, .int .i64 d.a, .int .i64 st] 30)) w5.heap.size 30 [.bool true, .slice (some ⟨d.g, 0, none⟩) x.cl x.cl, .int .i64 d.a, .int .i64 st] := Blk.new w5 _ [.bool true, .slice (some ⟨d.g, 0, none⟩) x.cl x.cl, .int .i64 d.a, .int .i64 st]
    have hcap := hd.blk.alloc (.cells #[.bool true, .slice (some ⟨d.g, 0, none⟩) x.cl x.cl, .int .i64 d.a, .int .i64 st] 30)
    have hF6 := HF5.out.alloc (.cells #[.bool true, .slice (some ⟨d.g, 0, none⟩) x.cl x.cl, .int .i64 d.a, .int .i64 st] 30)
    have hB6 := HB5.out.alloc HB5.out.size (.cells #[.bool true, .slice (some ⟨d.g, 0, none⟩) x.cl x.cl, .int .i64 d.a, .int .i64 st] 30)
    have hlen := hd.len
    have hne : w5.heap.size ≠ w.heap.size + 1 := by have := HF5.out.lt; omega
    have HOB := Lib.hid HB5.out.size
    have HLEN := Lib.hid hlen
    clear r0 r1 r2 r3 s0 s1 s2 s3 s4 r12 r11 r5 r8 r9 r10 hd
    generalize w5.alloc (.cells #[.bool true, .slice (some ⟨d.g, 0, none⟩) x.cl x.cl, .int .i64 d.a, .int .i64 st] 30) = w6 at *
    generalize w5.heap.size = ob at *
    have o1 : w6.cell? ⟨ob, 1, none⟩ = some (.slice (some ⟨d.g, 0, none⟩) x.cl x.cl) := hO6.cell 1
    have HO6 := Lib.hid hO6
    have HF6 := Lib.hid hF6
    have HB6 := Lib.hid hB6
    have HNE := Lib.hid hne
    have hnews : ∀ j u, (d.c.map (Value.int .i64))[j]? = some u → w6.cell? ((⟨d.g, 0, none⟩ : Addr).add j) = some u := fun j u hj => by
      rw [add_lit, Nat.zero_add]
      exact (hcap.cell j).trans hj
    clear hO6 hF6 hB6 hne hcap
    have n1 : ob ≠ w.heap.size + 1 := HNE.out
    have n2 : w.heap.size + 1 ≠ ob := fun e => HNE.out e.symm
    obtain ⟨i0, hi, hz0, hz1, hz2⟩ := info_parts int_info
    go_wp2_with (at_builtin; refine wpList_append_lies _ rfl (.const (.slice none 0 0)) (.tmp 105) 25 rfl w.heap.size 3 i0 (.int .i64 0) 1 8 Try.underlying25 hi hz0 hz1 hz2 rfl (by decide) (.slice none 0 0) 0 [] rfl (World.ownsRow_nil _ _ _ _) ⟨d.g, 0, none⟩ x.cl x.cl (d.c.map (Value.int .i64)) rfl (by rw [List.length_map, hlen, Nat.mul_one]) hnews (ints_oneCell _ _) (by omega) (by unfold maxLen; omega) (by omega) HB6.out.size _ rfl ?_; intro g2 cap2 w7 ho2 hg2 hat2 hlt2; have hk7 : Kept w6 w7 [] := Kept.of_grown' hg2; have HO7 := Lib.hid (HO6.out.kept hk7 (by simp)); have HF7 := Lib.hid (HF6.out.kept hk7 (by simp)); have HB7 := Lib.hid (Below.kept HB6.out hk7 (by simp) HB6.out.size); have HOW := Lib.hid ho2; have HG2 := Lib.hid hat2; have t0 : w7.cell? ⟨ob, 0, none⟩ = some (.bool true) := HO7.out.cell 0; have t1 : w7.cell? ⟨ob, 1, none⟩ = some (.slice (some ⟨d.g, 0, none⟩) x.cl x.cl) := HO7.out.cell 1; have t2 : w7.cell? ⟨ob, 2, none⟩ = some (.int .i64 d.a) := HO7.out.cell 2; have t3 : w7.cell? ⟨ob, 3, none⟩ = some (.int .i64 st) := HO7.out.cell 3; have t4 := HO7.out.frozen 1; have t5 := HO7.out.lt; have r0 : w7.cell? ⟨w.heap.size + 1, 0, none⟩ = some (.bool false) := HF7.out.cell 0; have r1 : w7.cell? ⟨w.heap.size + 1, 1, none⟩ = some (.slice none 0 0) := HF7.out.cell 1; have r2 : w7.cell? ⟨w.heap.size + 1, 2, none⟩ = some (.int .i64 0) := HF7.out.cell 2; have r3 : w7.cell? ⟨w.heap.size + 1, 3, none⟩ = some (.int .i64 0) := HF7.out.cell 3; have s0 := HF7.out.frozen 0; have s1 := HF7.out.frozen 1; have s2 := HF7.out.frozen 2; have s3 := HF7.out.frozen 3; have s4 := HF7.out.lt; clear hk7 ho2 hg2 hat2 hnews o1)
    obtain ⟨dd, hu, hd⟩ := und_found
    have hF8 := HF7.out.far (p := ⟨ob, 1, none⟩) (fun e => HNE.out e.symm) (.slice (some ⟨g2, 0, none⟩) x.cl cap2)
    refine bodyPost_ret (results_cell_tmp_row rfl _ _ (w.heap.size + 1) _ #[.bool true, .slice (some ⟨g2, 0, none⟩) x.cl cap2, .int .i64 d.a, .int .i64 st] dd rfl ((((hF8.set_ 0 (.bool true)).set_ 1 (.slice (some ⟨g2, 0, none⟩) x.cl cap2)).set_ 2 (.int .i64 d.a)).set_ 3 (.int .i64 st)) hu hd size_found) rfl ?_
    have hgo : g2 ≠ ob ∧ g2 ≠ w.heap.size + 1 := by
      have h1 := HO6.out.lt
      have h2 := HF6.out.lt
      rcases HG2.out with e | e
      · cases e
      · omega
    have hk := ((((Kept.setCell (w := w7) ⟨ob, 1, none⟩ (.slice (some ⟨g2, 0, none⟩) x.cl cap2)).trans (Kept.setCell ⟨w.heap.size + 1, 0, none⟩ (.bool true))).trans (Kept.setCell ⟨w.heap.size + 1, 1, none⟩ (.slice (some ⟨g2, 0, none⟩) x.cl cap2))).trans (Kept.setCell ⟨w.heap.size + 1, 2, none⟩ (.int .i64 d.a))).trans (Kept.setCell ⟨w.heap.size + 1, 3, none⟩ (.int .i64 st))
    have how := own_kept HOW.out hk (by intro b hb hm; simp [Value.ownBlock] at hb; simp at hm; omega)
    have hbk := Below.kept HB7.out hk (by intro g hg; simp at hg; have := HOB.out; omega) HB7.out.size
    rw [Nat.zero_add, List.nil_append] at how
    have hlen2 : d.c.length = x.cl := HLEN.out
    refine ⟨some d.res, ⟨.slice (some ⟨g2, 0, none⟩) x.cl cap2, st, rfl, ?_, hbk⟩, ?_⟩
    · simp only [Option.elim_some, Fd.res]
      rw [hlen2]; exact how
    · rw [Int.toNat_natCast, ← HPE.out]
      exact HLK.out
end Go.Proofs.Yteiggbbljgkloaa
