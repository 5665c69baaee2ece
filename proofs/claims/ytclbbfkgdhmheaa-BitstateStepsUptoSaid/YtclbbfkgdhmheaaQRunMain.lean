/- bitstate.Run: what it answers. -/
import Derived.Test.YtclbbfkgdhmheaaQRunBegin
import Derived.Test.YtclbbfkgdhmheaaQMay
import Derived.WalkMore
namespace Go.Proofs.Ytclbbfkgdhmheaa
open Go.RowKit Go.Proofs.Ytclbbfkgdhmheaa.Mach

/-- The captures of an answer. -/
def capsOf (r : Int × Option (List Int × Int) × Nat) : List Int := r.2.1.elim [] (·.1)
/-- What Run gives. -/
def RunPost (B : Nat) (w : World) (r : Int × Option (List Int × Int) × Nat) (e : Ending) (w' : World) : Prop :=
  ∃ cv : Value, e = .returned (.tuple #[.agg #[.bool r.2.1.isSome, cv, .int .i64 (r.2.1.elim 0 (·.2)), .int .i64 (r.2.2 : Int)], .int .i64 r.1]) ∧
    w'.ownsRow B 3 1 cv (capsOf r).length ((capsOf r).map (Value.int .i64)) ∧ Below B w w'
theorem size_found : (Try.prog.info? 38).map (·.size) = some 4 := by kernel_rfl
theorem u64_info : (Try.prog.info? 68).map (fun i => (i.zero, i.size, i.bytes)) = some (some (.int .u64 0), 1, 8) := by kernel_rfl
theorem und_found : ∃ d, Try.prog.underlying 38 = some d ∧ isRow d = true := ⟨_, Try.underlying38, rfl⟩

set_option maxRecDepth 1000000 in
set_option maxHeartbeats 4000000 in
theorem run_long (A At : Option Addr) (n c nt ct : Nat) (L : List InV) (t : List Int) (start caps at_ : Int) (anch : Bool) (w : World) (hP : ReadsP w w.heap.size A n c L) (hT : Reads w w.heap.size 1 At nt ct (t.map (Value.int .i64)))
    (hl : 4194304 < nt)
    : Calls Try.prog 8 #[.agg #[.slice A n c, .int .i64 start, .int .i64 caps], .slice At nt ct, .int .i64 at_, .bool anch] w fun e w' => RunPost w.heap.size w (2, none, 0) e w' := by
  have hbW : Below w.heap.size w ((w.alloc (.cells #[.slice A n c, .int .i64 start, .int .i64 caps] 28)).alloc (.cells #[.bool false, .slice none 0 0, .int .i64 0, .int .i64 0] 38)) := ((Below.refl _ _).alloc (Nat.le_refl _) _).alloc (by simp) _
  have hPB : Blk ((w.alloc (.cells #[.slice A n c, .int .i64 start, .int .i64 caps] 28)).alloc (.cells #[.bool false, .slice none 0 0, .int .i64 0, .int .i64 0] 38)) w.heap.size 28 [.slice A n c, .int .i64 start, .int .i64 caps] := (Blk.new w _ [.slice A n c, .int .i64 start, .int .i64 caps]).alloc _
  have hFB : Blk ((w.alloc (.cells #[.slice A n c, .int .i64 start, .int .i64 caps] 28)).alloc (.cells #[.bool false, .slice none 0 0, .int .i64 0, .int .i64 0] 38)) (w.heap.size + 1) 38 [.bool false, .slice none 0 0, .int .i64 0, .int .i64 0] := by
    have := Blk.new (w.alloc (.cells #[.slice A n c, .int .i64 start, .int .i64 caps] 28)) 38 [.bool false, .slice none 0 0, .int .i64 0, .int .i64 0]
    rw [show (w.alloc (.cells #[.slice A n c, .int .i64 start, .int .i64 caps] 28)).heap.size = w.heap.size + 1 from by simp] at this
    exact this
  have HBW := Lib.hid hbW
  have HPB := Lib.hid hPB
  have HFB := Lib.hid hFB
  have hl2 : (4194304 : Int) < (nt : Int) := by omega
  clear hbW hPB hFB hl hP hT
  go_enter Try.func8, Try.ntmps8
  go_wp2_with fail
  refine wp_scope_straight ?_
  have HB1 := HBW
  have HF1 := HFB
  have r0 : ((w.alloc (.cells #[.slice A n c, .int .i64 start, .int .i64 caps] 28)).alloc (.cells #[.bool false, .slice none 0 0, .int .i64 0, .int .i64 0] 38)).cell? ⟨w.heap.size + 1, 0, none⟩ = some (.bool false) := HF1.out.cell 0
  have r1 : ((w.alloc (.cells #[.slice A n c, .int .i64 start, .int .i64 caps] 28)).alloc (.cells #[.bool false, .slice none 0 0, .int .i64 0, .int .i64 0] 38)).cell? ⟨w.heap.size + 1, 1, none⟩ = some (.slice none 0 0) := HF1.out.cell 1
  have r2 : ((w.alloc (.cells #[.slice A n c, .int .i64 start, .int .i64 caps] 28)).alloc (.cells #[.bool false, .slice none 0 0, .int .i64 0, .int .i64 0] 38)).cell? ⟨w.heap.size + 1, 2, none⟩ = some (.int .i64 0) := HF1.out.cell 2
  have r3 : ((w.alloc (.cells #[.slice A n c, .int .i64 start, .int .i64 caps] 28)).alloc (.cells #[.bool false, .slice none 0 0, .int .i64 0, .int .i64 0] 38)).cell? ⟨w.heap.size + 1, 3, none⟩ = some (.int .i64 0) := HF1.out.cell 3
  have s0 := HF1.out.frozen 0
  have s1 := HF1.out.frozen 1
  have s2 := HF1.out.frozen 2
  have s3 := HF1.out.frozen 3
  have s4 := HF1.out.lt
  clear HBW HPB
  generalize ((w.alloc (.cells #[.slice A n c, .int .i64 start, .int .i64 caps] 28)).alloc (.cells #[.bool false, .slice none 0 0, .int .i64 0, .int .i64 0] 38)) = w1 at *
  go_wp2_with fail
  obtain ⟨d, hu, hd⟩ := und_found
  (try simp only [Exit.inBlock, Exit.then, Exit.noGoto])
  have hk := fun u0 u1 u2 u3 => (((Kept.setCell (w := w1) ⟨w.heap.size + 1, 0, none⟩ u0).trans (Kept.setCell ⟨w.heap.size + 1, 1, none⟩ u1)).trans (Kept.setCell ⟨w.heap.size + 1, 2, none⟩ u2)).trans (Kept.setCell ⟨w.heap.size + 1, 3, none⟩ u3)
  refine bodyPost_ret (results_cell_tmp_row rfl _ _ (w.heap.size + 1) _ #[.bool false, .slice none 0 0, .int .i64 0, .int .i64 0] d rfl ((((HF1.out.set_ 0 (.bool false)).set_ 1 (.slice none 0 0)).set_ 2 (.int .i64 0)).set_ 3 (.int .i64 0)) hu hd size_found) rfl ?_
  exact ⟨.slice none 0 0, rfl, World.ownsRow_nil _ _ _ _, Below.kept HB1.out (hk _ _ _ _) (by intro g hg; simp at hg; omega) HB1.out.size⟩

set_option maxRecDepth 1000000 in
set_option maxHeartbeats 4000000 in
theorem run_prog (A At : Option Addr) (n c nt ct : Nat) (L : List InV) (t : List Int) (start caps at_ : Int) (anch : Bool) (w : World) (hP : ReadsP w w.heap.size A n c L) (hT : Reads w w.heap.size 1 At nt ct (t.map (Value.int .i64)))
    (hl : nt ≤ 4194304) (hc : checkB ⟨insL L, start, caps⟩ = false)
    : Calls Try.prog 8 #[.agg #[.slice A n c, .int .i64 start, .int .i64 caps], .slice At nt ct, .int .i64 at_, .bool anch] w fun e w' => RunPost w.heap.size w (90, none, 0) e w' := by
  have hbW : Below w.heap.size w ((w.alloc (.cells #[.slice A n c, .int .i64 start, .int .i64 caps] 28)).alloc (.cells #[.bool false, .slice none 0 0, .int .i64 0, .int .i64 0] 38)) := ((Below.refl _ _).alloc (Nat.le_refl _) _).alloc (by simp) _
  have hPB : Blk ((w.alloc (.cells #[.slice A n c, .int .i64 start, .int .i64 caps] 28)).alloc (.cells #[.bool false, .slice none 0 0, .int .i64 0, .int .i64 0] 38)) w.heap.size 28 [.slice A n c, .int .i64 start, .int .i64 caps] := (Blk.new w _ [.slice A n c, .int .i64 start, .int .i64 caps]).alloc _
  have hFB : Blk ((w.alloc (.cells #[.slice A n c, .int .i64 start, .int .i64 caps] 28)).alloc (.cells #[.bool false, .slice none 0 0, .int .i64 0, .int .i64 0] 38)) (w.heap.size + 1) 38 [.bool false, .slice none 0 0, .int .i64 0, .int .i64 0] := by
    have := Blk.new (w.alloc (.cells #[.slice A n c, .int .i64 start, .int .i64 caps] 28)) 38 [.bool false, .slice none 0 0, .int .i64 0, .int .i64 0]
    rw [show (w.alloc (.cells #[.slice A n c, .int .i64 start, .int .i64 caps] 28)).heap.size = w.heap.size + 1 from by simp] at this
    exact this
  have HBW := Lib.hid hbW
  have HPB := Lib.hid hPB
  have HFB := Lib.hid hFB
  have hl2 : ¬ ((4194304 : Int) < (nt : Int)) := by omega
  have HCH := Lib.hid (check_any A n c L start caps ((w.alloc (.cells #[.slice A n c, .int .i64 start, .int .i64 caps] 28)).alloc (.cells #[.bool false, .slice none 0 0, .int .i64 0, .int .i64 0] 38)) ((hP.below hbW).more hbW.size))
  rw [show chkE ⟨insL L, start, caps⟩ = 90 from by unfold chkE; rw [hc]; rfl] at HCH
  clear hbW hPB hFB hl hP hT hc
  go_enter Try.func8, Try.ntmps8
  go_wp2_with fail
  refine wp_scope_straight ?_
  go_wp2_with (go_at_call 19; refine HCH.out.mono ?_; rintro e w1 ⟨rfl, hb1⟩; have HB1 := Lib.hid (HBW.out.trans (hb1.mono HBW.out.size)); have HF1 := Lib.hid (HFB.out.below hb1 HFB.out.lt); have HP1 := Lib.hid (HPB.out.below hb1 HPB.out.lt); have r0 : w1.cell? ⟨w.heap.size + 1, 0, none⟩ = some (.bool false) := HF1.out.cell 0; have r1 : w1.cell? ⟨w.heap.size + 1, 1, none⟩ = some (.slice none 0 0) := HF1.out.cell 1; have r2 : w1.cell? ⟨w.heap.size + 1, 2, none⟩ = some (.int .i64 0) := HF1.out.cell 2; have r3 : w1.cell? ⟨w.heap.size + 1, 3, none⟩ = some (.int .i64 0) := HF1.out.cell 3; have s0 := HF1.out.frozen 0; have s1 := HF1.out.frozen 1; have s2 := HF1.out.frozen 2; have s3 := HF1.out.frozen 3; have s4 := HF1.out.lt; have p0 : w1.cell? ⟨w.heap.size, 0, none⟩ = some (.slice A n c) := HP1.out.cell 0; have p1 : w1.cell? ⟨w.heap.size, 2, none⟩ = some (.int .i64 caps) := HP1.out.cell 2; have p4 := HP1.out.lt; clear hb1; simp only [])
  obtain ⟨d, hu, hd⟩ := und_found
  (try simp only [Exit.inBlock, Exit.then, Exit.noGoto])
  have hk := fun u0 u1 u2 u3 => (((Kept.setCell (w := w1) ⟨w.heap.size + 1, 0, none⟩ u0).trans (Kept.setCell ⟨w.heap.size + 1, 1, none⟩ u1)).trans (Kept.setCell ⟨w.heap.size + 1, 2, none⟩ u2)).trans (Kept.setCell ⟨w.heap.size + 1, 3, none⟩ u3)
  refine bodyPost_ret (results_cell_tmp_row rfl _ _ (w.heap.size + 1) _ #[.bool false, .slice none 0 0, .int .i64 0, .int .i64 0] d rfl ((((HF1.out.set_ 0 (.bool false)).set_ 1 (.slice none 0 0)).set_ 2 (.int .i64 0)).set_ 3 (.int .i64 0)) hu hd size_found) rfl ?_
  exact ⟨.slice none 0 0, rfl, World.ownsRow_nil _ _ _ _, Below.kept HB1.out (hk _ _ _ _) (by intro g hg; simp at hg; omega) HB1.out.size⟩

set_option maxRecDepth 1000000 in
set_option maxHeartbeats 4000000 in
theorem run_arg (A At : Option Addr) (n c nt ct : Nat) (L : List InV) (t : List Int) (start caps at_ : Int) (anch : Bool) (w : World) (hP : ReadsP w w.heap.size A n c L) (hT : Reads w w.heap.size 1 At nt ct (t.map (Value.int .i64)))
    (hl : nt ≤ 4194304) (hc : checkB ⟨insL L, start, caps⟩ = true) (ha : at_ < 0 ∨ (nt : Int) < at_)
    : Calls Try.prog 8 #[.agg #[.slice A n c, .int .i64 start, .int .i64 caps], .slice At nt ct, .int .i64 at_, .bool anch] w fun e w' => RunPost w.heap.size w (1, none, 0) e w' := by
  have hbW : Below w.heap.size w ((w.alloc (.cells #[.slice A n c, .int .i64 start, .int .i64 caps] 28)).alloc (.cells #[.bool false, .slice none 0 0, .int .i64 0, .int .i64 0] 38)) := ((Below.refl _ _).alloc (Nat.le_refl _) _).alloc (by simp) _
  have hPB : Blk ((w.alloc (.cells #[.slice A n c, .int .i64 start, .int .i64 caps] 28)).alloc (.cells #[.bool false, .slice none 0 0, .int .i64 0, .int .i64 0] 38)) w.heap.size 28 [.slice A n c, .int .i64 start, .int .i64 caps] := (Blk.new w _ [.slice A n c, .int .i64 start, .int .i64 caps]).alloc _
  have hFB : Blk ((w.alloc (.cells #[.slice A n c, .int .i64 start, .int .i64 caps] 28)).alloc (.cells #[.bool false, .slice none 0 0, .int .i64 0, .int .i64 0] 38)) (w.heap.size + 1) 38 [.bool false, .slice none 0 0, .int .i64 0, .int .i64 0] := by
    have := Blk.new (w.alloc (.cells #[.slice A n c, .int .i64 start, .int .i64 caps] 28)) 38 [.bool false, .slice none 0 0, .int .i64 0, .int .i64 0]
    rw [show (w.alloc (.cells #[.slice A n c, .int .i64 start, .int .i64 caps] 28)).heap.size = w.heap.size + 1 from by simp] at this
    exact this
  have HBW := Lib.hid hbW
  have HPB := Lib.hid hPB
  have HFB := Lib.hid hFB
  have hl2 : ¬ ((4194304 : Int) < (nt : Int)) := by omega
  have HCH := Lib.hid (check_any A n c L start caps ((w.alloc (.cells #[.slice A n c, .int .i64 start, .int .i64 caps] 28)).alloc (.cells #[.bool false, .slice none 0 0, .int .i64 0, .int .i64 0] 38)) ((hP.below hbW).more hbW.size))
  rw [show chkE ⟨insL L, start, caps⟩ = 0 from by unfold chkE; rw [hc]; rfl] at HCH
  clear hbW hPB hFB hl hP hT hc
  rcases ha with ha | ha
  all_goals
    go_enter Try.func8, Try.ntmps8
    go_wp2_with fail
    refine wp_scope_straight ?_
    go_wp2_with (go_at_call 19; refine HCH.out.mono ?_; rintro e w1 ⟨rfl, hb1⟩; have HB1 := Lib.hid (HBW.out.trans (hb1.mono HBW.out.size)); have HF1 := Lib.hid (HFB.out.below hb1 HFB.out.lt); have HP1 := Lib.hid (HPB.out.below hb1 HPB.out.lt); have r0 : w1.cell? ⟨w.heap.size + 1, 0, none⟩ = some (.bool false) := HF1.out.cell 0; have r1 : w1.cell? ⟨w.heap.size + 1, 1, none⟩ = some (.slice none 0 0) := HF1.out.cell 1; have r2 : w1.cell? ⟨w.heap.size + 1, 2, none⟩ = some (.int .i64 0) := HF1.out.cell 2; have r3 : w1.cell? ⟨w.heap.size + 1, 3, none⟩ = some (.int .i64 0) := HF1.out.cell 3; have s0 := HF1.out.frozen 0; have s1 := HF1.out.frozen 1; have s2 := HF1.out.frozen 2; have s3 := HF1.out.frozen 3; have s4 := HF1.out.lt; have p0 : w1.cell? ⟨w.heap.size, 0, none⟩ = some (.slice A n c) := HP1.out.cell 0; have p1 : w1.cell? ⟨w.heap.size, 2, none⟩ = some (.int .i64 caps) := HP1.out.cell 2; have p4 := HP1.out.lt; clear hb1; simp only [])
  all_goals
    obtain ⟨d, hu, hd⟩ := und_found
    (try simp only [Exit.inBlock, Exit.then, Exit.noGoto])
    have hk := fun u0 u1 u2 u3 => (((Kept.setCell (w := w1) ⟨w.heap.size + 1, 0, none⟩ u0).trans (Kept.setCell ⟨w.heap.size + 1, 1, none⟩ u1)).trans (Kept.setCell ⟨w.heap.size + 1, 2, none⟩ u2)).trans (Kept.setCell ⟨w.heap.size + 1, 3, none⟩ u3)
    refine bodyPost_ret (results_cell_tmp_row rfl _ _ (w.heap.size + 1) _ #[.bool false, .slice none 0 0, .int .i64 0, .int .i64 0] d rfl ((((HF1.out.set_ 0 (.bool false)).set_ 1 (.slice none 0 0)).set_ 2 (.int .i64 0)).set_ 3 (.int .i64 0)) hu hd size_found) rfl ?_
    exact ⟨.slice none 0 0, rfl, World.ownsRow_nil _ _ _ _, Below.kept HB1.out (hk _ _ _ _) (by intro g hg; simp at hg; omega) HB1.out.size⟩

set_option maxRecDepth 1000000 in
set_option maxHeartbeats 4000000 in
theorem run_big (A At : Option Addr) (n c nt ct : Nat) (L : List InV) (t : List Int) (start caps at_ : Int) (anch : Bool) (w : World) (hP : ReadsP w w.heap.size A n c L) (hT : Reads w w.heap.size 1 At nt ct (t.map (Value.int .i64)))
    (hl : nt ≤ 4194304) (hc : checkB ⟨insL L, start, caps⟩ = true) (ha : 0 ≤ at_ ∧ at_ ≤ (nt : Int)) (hbig : 16777216 < n * (nt - at_.toNat + 1))
    : Calls Try.prog 8 #[.agg #[.slice A n c, .int .i64 start, .int .i64 caps], .slice At nt ct, .int .i64 at_, .bool anch] w fun e w' => RunPost w.heap.size w (3, none, 0) e w' := by
  obtain ⟨k0, rfl⟩ : ∃ k0 : Nat, at_ = (k0 : Int) := ⟨at_.toNat, by omega⟩
  rw [Int.toNat_natCast] at hbig
  have hk0 : k0 ≤ nt := by omega
  obtain ⟨pl, hpl⟩ : ∃ pl : Nat, pl = nt - k0 + 1 := ⟨_, rfl⟩
  rw [← hpl] at hbig
  have hple : (nt : Int) - (k0 : Int) + 1 = (pl : Int) := by omega
  obtain ⟨N, hN⟩ : ∃ N : Nat, N = n * pl := ⟨_, rfl⟩
  rw [← hN] at hbig
  have hNe : (n : Int) * (pl : Int) = (N : Int) := by rw [hN]; norm_cast
  have hat1 : ¬ ((k0 : Int) < 0) := by omega
  have hat2 : ¬ ((nt : Int) < (k0 : Int)) := by omega
  have hplb : pl ≤ 4194305 := by omega
  have hnb : n ≤ 20000 := by
    have := (head_of hc).2.1
    have hl := hP.len
    simp only [insL, List.length_map] at this
    omega
  have hNb : N ≤ 20000 * 4194305 := by rw [hN]; exact Nat.mul_le_mul hnb hplb
  have hbW : Below w.heap.size w ((w.alloc (.cells #[.slice A n c, .int .i64 start, .int .i64 caps] 28)).alloc (.cells #[.bool false, .slice none 0 0, .int .i64 0, .int .i64 0] 38)) := ((Below.refl _ _).alloc (Nat.le_refl _) _).alloc (by simp) _
  have hPB : Blk ((w.alloc (.cells #[.slice A n c, .int .i64 start, .int .i64 caps] 28)).alloc (.cells #[.bool false, .slice none 0 0, .int .i64 0, .int .i64 0] 38)) w.heap.size 28 [.slice A n c, .int .i64 start, .int .i64 caps] := (Blk.new w _ [.slice A n c, .int .i64 start, .int .i64 caps]).alloc _
  have hFB : Blk ((w.alloc (.cells #[.slice A n c, .int .i64 start, .int .i64 caps] 28)).alloc (.cells #[.bool false, .slice none 0 0, .int .i64 0, .int .i64 0] 38)) (w.heap.size + 1) 38 [.bool false, .slice none 0 0, .int .i64 0, .int .i64 0] := by
    have := Blk.new (w.alloc (.cells #[.slice A n c, .int .i64 start, .int .i64 caps] 28)) 38 [.bool false, .slice none 0 0, .int .i64 0, .int .i64 0]
    rw [show (w.alloc (.cells #[.slice A n c, .int .i64 start, .int .i64 caps] 28)).heap.size = w.heap.size + 1 from by simp] at this
    exact this
  have HBW := Lib.hid hbW
  have HPB := Lib.hid hPB
  have HFB := Lib.hid hFB
  have hl2 : ¬ ((4194304 : Int) < (nt : Int)) := by omega
  have hbig2 : (16777216 : Int) < (N : Int) := by omega
  have HCH := Lib.hid (check_any A n c L start caps ((w.alloc (.cells #[.slice A n c, .int .i64 start, .int .i64 caps] 28)).alloc (.cells #[.bool false, .slice none 0 0, .int .i64 0, .int .i64 0] 38)) ((hP.below hbW).more hbW.size))
  rw [show chkE ⟨insL L, start, caps⟩ = 0 from by unfold chkE; rw [hc]; rfl] at HCH
  clear hbW hPB hFB hl hP hT hc hN hpl ha hbig
  go_enter Try.func8, Try.ntmps8
  go_wp2_with fail
  refine wp_scope_straight ?_
  go_wp2_with (go_at_call 19; refine HCH.out.mono ?_; rintro e w1 ⟨rfl, hb1⟩; have HB1 := Lib.hid (HBW.out.trans (hb1.mono HBW.out.size)); have HF1 := Lib.hid (HFB.out.below hb1 HFB.out.lt); have HP1 := Lib.hid (HPB.out.below hb1 HPB.out.lt); have r0 : w1.cell? ⟨w.heap.size + 1, 0, none⟩ = some (.bool false) := HF1.out.cell 0; have r1 : w1.cell? ⟨w.heap.size + 1, 1, none⟩ = some (.slice none 0 0) := HF1.out.cell 1; have r2 : w1.cell? ⟨w.heap.size + 1, 2, none⟩ = some (.int .i64 0) := HF1.out.cell 2; have r3 : w1.cell? ⟨w.heap.size + 1, 3, none⟩ = some (.int .i64 0) := HF1.out.cell 3; have s0 := HF1.out.frozen 0; have s1 := HF1.out.frozen 1; have s2 := HF1.out.frozen 2; have s3 := HF1.out.frozen 3; have s4 := HF1.out.lt; have p0 : w1.cell? ⟨w.heap.size, 0, none⟩ = some (.slice A n c) := HP1.out.cell 0; have p1 : w1.cell? ⟨w.heap.size, 2, none⟩ = some (.int .i64 caps) := HP1.out.cell 2; have p4 := HP1.out.lt; clear hb1; simp only [])
  obtain ⟨d, hu, hd⟩ := und_found
  (try simp only [Exit.inBlock, Exit.then, Exit.noGoto])
  have hk := fun u0 u1 u2 u3 => (((Kept.setCell (w := w1) ⟨w.heap.size + 1, 0, none⟩ u0).trans (Kept.setCell ⟨w.heap.size + 1, 1, none⟩ u1)).trans (Kept.setCell ⟨w.heap.size + 1, 2, none⟩ u2)).trans (Kept.setCell ⟨w.heap.size + 1, 3, none⟩ u3)
  refine bodyPost_ret (results_cell_tmp_row rfl _ _ (w.heap.size + 1) _ #[.bool false, .slice none 0 0, .int .i64 0, .int .i64 0] d rfl ((((HF1.out.set_ 0 (.bool false)).set_ 1 (.slice none 0 0)).set_ 2 (.int .i64 0)).set_ 3 (.int .i64 0)) hu hd size_found) rfl ?_
  exact ⟨.slice none 0 0, rfl, World.ownsRow_nil _ _ _ _, Below.kept HB1.out (hk _ _ _ _) (by intro g hg; simp at hg; omega) HB1.out.size⟩

set_option maxRecDepth 1000000 in
set_option maxHeartbeats 4000000 in
theorem run_main (A At : Option Addr) (n c nt ct : Nat) (L : List InV) (t : List Int) (start caps at_ : Int) (anch : Bool) (w : World) (hP : ReadsP w w.heap.size A n c L) (hT : Reads w w.heap.size 1 At nt ct (t.map (Value.int .i64)))
    (hl : nt ≤ 4194304) (hc : checkB ⟨insL L, start, caps⟩ = true) (ha : 0 ≤ at_ ∧ at_ ≤ (nt : Int)) (hbig : n * (nt - at_.toNat + 1) ≤ 16777216)
    : Calls Try.prog 8 #[.agg #[.slice A n c, .int .i64 start, .int .i64 caps], .slice At nt ct, .int .i64 at_, .bool anch] w fun e w' => RunPost w.heap.size w (0, search ⟨insL L, start, caps⟩ t at_.toNat anch (t.length + 1 - at_.toNat) at_.toNat (List.replicate ((insL L).length * places t at_.toNat) false) 0) e w' := by
  obtain ⟨k0, rfl⟩ : ∃ k0 : Nat, at_ = (k0 : Int) := ⟨at_.toNat, by omega⟩
  rw [Int.toNat_natCast] at hbig
  have hk0 : k0 ≤ nt := by omega
  obtain ⟨pl, hpl⟩ : ∃ pl : Nat, pl = nt - k0 + 1 := ⟨_, rfl⟩
  rw [← hpl] at hbig
  have hple : (nt : Int) - (k0 : Int) + 1 = (pl : Int) := by omega
  obtain ⟨N, hN⟩ : ∃ N : Nat, N = n * pl := ⟨_, rfl⟩
  rw [← hN] at hbig
  have hNe : (n : Int) * (pl : Int) = (N : Int) := by rw [hN]; norm_cast
  have hat1 : ¬ ((k0 : Int) < 0) := by omega
  have hat2 : ¬ ((nt : Int) < (k0 : Int)) := by omega
  have hplb : pl ≤ 4194305 := by omega
  have hnb : n ≤ 20000 := by
    have := (head_of hc).2.1
    have hl := hP.len
    simp only [insL, List.length_map] at this
    omega
  have hNb : N ≤ 20000 * 4194305 := by rw [hN]; exact Nat.mul_le_mul hnb hplb
  have hbW : Below w.heap.size w ((w.alloc (.cells #[.slice A n c, .int .i64 start, .int .i64 caps] 28)).alloc (.cells #[.bool false, .slice none 0 0, .int .i64 0, .int .i64 0] 38)) := ((Below.refl _ _).alloc (Nat.le_refl _) _).alloc (by simp) _
  have hPB : Blk ((w.alloc (.cells #[.slice A n c, .int .i64 start, .int .i64 caps] 28)).alloc (.cells #[.bool false, .slice none 0 0, .int .i64 0, .int .i64 0] 38)) w.heap.size 28 [.slice A n c, .int .i64 start, .int .i64 caps] := (Blk.new w _ [.slice A n c, .int .i64 start, .int .i64 caps]).alloc _
  have hFB : Blk ((w.alloc (.cells #[.slice A n c, .int .i64 start, .int .i64 caps] 28)).alloc (.cells #[.bool false, .slice none 0 0, .int .i64 0, .int .i64 0] 38)) (w.heap.size + 1) 38 [.bool false, .slice none 0 0, .int .i64 0, .int .i64 0] := by
    have := Blk.new (w.alloc (.cells #[.slice A n c, .int .i64 start, .int .i64 caps] 28)) 38 [.bool false, .slice none 0 0, .int .i64 0, .int .i64 0]
    rw [show (w.alloc (.cells #[.slice A n c, .int .i64 start, .int .i64 caps] 28)).heap.size = w.heap.size + 1 from by simp] at this
    exact this
  have HBW := Lib.hid hbW
  have HPB := Lib.hid hPB
  have HFB := Lib.hid hFB
  have hl2 : ¬ ((4194304 : Int) < (nt : Int)) := by omega
  have hbig2 : ¬ ((16777216 : Int) < (N : Int)) := by omega
  obtain ⟨wl, hwl⟩ : ∃ wl : Nat, wl = N / 64 + 1 := ⟨_, rfl⟩
  have hwle : (N : Int) / 64 + 1 = (wl : Int) := by omega
  have hcapsb : 2 ≤ caps ∧ caps ≤ 1002 := (head_of hc).2.2.2.2
  obtain ⟨cl, rfl⟩ : ∃ cl : Nat, caps = (cl : Int) := ⟨caps.toNat, by omega⟩
  obtain ⟨iU, hiU, hz0U, hz1U, hz2U⟩ := info_parts u64_info
  obtain ⟨iI, hiI, hz0I, hz1I, hz2I⟩ := info_parts int_info
  have hmkM : ∀ u : World, (Instr.makeSlice 59 (.int .i64 (wl : Int)) (.int .i64 (wl : Int))).run Try.prog u =
      .ok (.slice (some ⟨u.heap.size, 0, none⟩) wl wl) (u.alloc (.cells ((List.replicate wl 0).map fun x : Nat => Value.int .u64 (x : Int)).toArray 68)) := fun u => by
    have h := run_make (P := Try.prog) u 59 68 iU (.int .u64 0) Try.underlying59 hiU hz0U .i64 .i64 (wl : Int) (wl : Int) (by omega) (Int.le_refl _) (by rw [hz2U]; omega) (by omega)
    have hmd : madeCells #[.int .u64 0] wl = ((List.replicate wl 0).map fun x : Nat => Value.int .u64 (x : Int)).toArray := by
      apply Array.toList_inj.1
      rw [toList_madeCells_one]; simp
    rw [Int.toNat_natCast] at h
    rw [← hmd]
    simpa [hz1U, Value.cells] using h
  have hmkC : ∀ u : World, (Instr.makeSlice 29 (.int .i64 (cl : Int)) (.int .i64 (cl : Int))).run Try.prog u =
      .ok (.slice (some ⟨u.heap.size, 0, none⟩) cl cl) (u.alloc (.cells ((List.replicate cl (0 : Int)).map (Value.int .i64)).toArray 3)) := fun u => by
    have h := run_make (P := Try.prog) u 29 3 iI (.int .i64 0) Try.underlying29 hiI hz0I .i64 .i64 (cl : Int) (cl : Int) (by omega) (Int.le_refl _) (by rw [hz2I]; omega) (by omega)
    have hmd : madeCells #[.int .i64 0] cl = ((List.replicate cl (0 : Int)).map (Value.int .i64)).toArray := by
      apply Array.toList_inj.1
      rw [toList_madeCells_one]; simp
    rw [Int.toNat_natCast] at h
    rw [← hmd]
    simpa [hz1I, Value.cells] using h
  have HCH := Lib.hid (check_any A n c L start (cl : Int) ((w.alloc (.cells #[.slice A n c, .int .i64 start, .int .i64 (cl : Int)] 28)).alloc (.cells #[.bool false, .slice none 0 0, .int .i64 0, .int .i64 0] 38)) ((hP.below hbW).more hbW.size))
  rw [show chkE ⟨insL L, start, (cl : Int)⟩ = 0 from by unfold chkE; rw [hc]; rfl] at HCH
  have HX := Lib.hid (show Cx w A At n c nt ct k0 pl wl cl ⟨insL L, start, (cl : Int)⟩ t L from by
    have htl : t.length = nt := by have := hT.len; simpa using this
    have hnl : (insL L).length = n := by rw [insL, List.length_map]; exact hP.len
    exact ⟨hP, hT, rfl, hc, hk0, by unfold places; omega, by simp only [hnl]; rw [hwl, hN]; unfold places; rw [htl, ← hpl], by simp, by simp only [hnl]; unfold places; rw [htl, ← hpl, ← hN]; exact hbig, hl⟩)
  have HN := Lib.hid (show (insL L).length * places t k0 = N from by
    have htl : t.length = nt := by have := hT.len; simpa using this
    have hnl : (insL L).length = n := by rw [insL, List.length_map]; exact hP.len
    rw [hnl, hN, hpl]; unfold places; rw [htl])
  have HWL := Lib.hid hwl
  clear hbW hPB hFB hl hP hT hc hN hpl ha hbig hwl
  go_enter Try.func8, Try.ntmps8
  go_wp2_with fail
  refine wp_scope_straight ?_
  go_wp2_with (go_at_call 19; refine HCH.out.mono ?_; rintro e w1 ⟨rfl, hb1⟩; have HB1 := Lib.hid (HBW.out.trans (hb1.mono HBW.out.size)); have HF1 := Lib.hid (HFB.out.below hb1 HFB.out.lt); have HP1 := Lib.hid (HPB.out.below hb1 HPB.out.lt); have r0 : w1.cell? ⟨w.heap.size + 1, 0, none⟩ = some (.bool false) := HF1.out.cell 0; have r1 : w1.cell? ⟨w.heap.size + 1, 1, none⟩ = some (.slice none 0 0) := HF1.out.cell 1; have r2 : w1.cell? ⟨w.heap.size + 1, 2, none⟩ = some (.int .i64 0) := HF1.out.cell 2; have r3 : w1.cell? ⟨w.heap.size + 1, 3, none⟩ = some (.int .i64 0) := HF1.out.cell 3; have s0 := HF1.out.frozen 0; have s1 := HF1.out.frozen 1; have s2 := HF1.out.frozen 2; have s3 := HF1.out.frozen 3; have s4 := HF1.out.lt; have p0 : w1.cell? ⟨w.heap.size, 0, none⟩ = some (.slice A n c) := HP1.out.cell 0; have p1 : w1.cell? ⟨w.heap.size, 2, none⟩ = some (.int .i64 (cl : Int)) := HP1.out.cell 2; have p4 := HP1.out.lt; clear hb1; simp only [])
  go_step3
  go_wp2_with fail
  have z1 : (w1.alloc (.cells (Array.replicate wl (.int .u64 0)) 68)).heap.size = w1.heap.size + 1 := by simp
  have z2 : ((w1.alloc (.cells (Array.replicate wl (.int .u64 0)) 68)).alloc (.cells (Array.replicate cl (.int .i64 0)) 3)).heap.size = w1.heap.size + 1 + 1 := by simp
  have hM : Blk (((w1.alloc (.cells (Array.replicate wl (.int .u64 0)) 68)).alloc (.cells (Array.replicate cl (.int .i64 0)) 3)).alloc (.cells #[.slice none 0 0, .int .i64 0] 62)) w1.heap.size 68 ((List.replicate wl 0).map fun x : Nat => Value.int .u64 (x : Int)) := by
    rw [List.map_replicate]
    exact ((Blk.new w1 68 (List.replicate wl (.int .u64 0))).alloc _).alloc _
  have hC : Blk (((w1.alloc (.cells (Array.replicate wl (.int .u64 0)) 68)).alloc (.cells (Array.replicate cl (.int .i64 0)) 3)).alloc (.cells #[.slice none 0 0, .int .i64 0] 62)) (w1.heap.size + 1) 3 ((List.replicate cl (0 : Int)).map (Value.int .i64)) := by
    rw [List.map_replicate, ← z1]
    exact (Blk.new (w1.alloc (.cells (Array.replicate wl (.int .u64 0)) 68)) 3 (List.replicate cl (.int .i64 0))).alloc _
  have hS : Blk (((w1.alloc (.cells (Array.replicate wl (.int .u64 0)) 68)).alloc (.cells (Array.replicate cl (.int .i64 0)) 3)).alloc (.cells #[.slice none 0 0, .int .i64 0] 62)) (w1.heap.size + 1 + 1) 62 [.slice none 0 0, .int .i64 0] := by
    rw [← z2]
    exact Blk.new ((w1.alloc (.cells (Array.replicate wl (.int .u64 0)) 68)).alloc (.cells (Array.replicate cl (.int .i64 0)) 3)) 62 [.slice none 0 0, .int .i64 0]
  have hb3 : Below w1.heap.size w1 (((w1.alloc (.cells (Array.replicate wl (.int .u64 0)) 68)).alloc (.cells (Array.replicate cl (.int .i64 0)) 3)).alloc (.cells #[.slice none 0 0, .int .i64 0] 62)) := (((Below.refl _ _).alloc (Nat.le_refl _) _).alloc (by simp) _).alloc (by simp; omega) _
  have hP3 := HP1.out.below hb3 HP1.out.lt
  have hF3 := HF1.out.below hb3 HF1.out.lt
  have hsz := HB1.out.size
  have hrn : Rn w ⟨w.heap.size, w.heap.size + 1, w1.heap.size, w1.heap.size + 1, w1.heap.size + 1 + 1⟩ A n c start (cl : Int) (.slice none 0 0) (List.replicate wl 0) ⟨[], List.replicate N false, List.replicate cl 0, 0, none⟩ (((w1.alloc (.cells (Array.replicate wl (.int .u64 0)) 68)).alloc (.cells (Array.replicate cl (.int .i64 0)) 3)).alloc (.cells #[.slice none 0 0, .int .i64 0] 62)) :=
    ⟨HB1.out.trans (hb3.mono hsz), ⟨Nat.le_refl _, Nat.le_succ _, hsz, Nat.le_succ_of_le hsz, Nat.le_succ_of_le (Nat.le_succ_of_le hsz)⟩, hP3, hF3, hM, by rw [HWL.out]; exact Bits.new N, hC, ⟨⟨0, hS⟩, World.ownsRow_nil _ _ _ _⟩⟩
  clear hM hC hS hb3 hP3 hF3 z1 z2 p0 p1 p4 r0 r1 r2 r3 s0 s1 s2 s3 s4
  generalize (((w1.alloc (.cells (Array.replicate wl (.int .u64 0)) 68)).alloc (.cells (Array.replicate cl (.int .i64 0)) 3)).alloc (.cells #[.slice none 0 0, .int .i64 0] 62)) = w3 at *
  have HR := Lib.hid hrn
  clear hrn
  obtain ⟨d, hu, hd⟩ := und_found
  refine begins_loop w ⟨w.heap.size, w.heap.size + 1, w1.heap.size, w1.heap.size + 1, w1.heap.size + 1 + 1⟩ A At n c nt ct k0 pl wl cl start (cl : Int) anch _ ⟨insL L, start, (cl : Int)⟩ t (List.replicate ((insL L).length * places t k0) false) L HX.out rfl rfl _ _ _ _ _ _ _ _ _ _ _ _ _ _ _ _ _ _ _ _ _ _ _ _ _ _ _ _ _ _ _ _ _ _ _ _ _ _ _ _ _ _ _ _ _ _ _ _ _ _ _ _ _ _ _ _ _ _ _ _ _ _ _ _ _ _ _ _ _ _ _ _ _ _ _ _ _ _ _ _ _ _ _ _ _ _ _ _ _ _ _ _ _ _ _ _ _ _ _ _ _ _ _ _ _ _ _ _ _ _ _ _ _ _ _ _ _ _ _ _ _ _ _ _ _ _ _ _ _ _ _ _ _ _ _ _ _ _ _ _ _ _ _ _ _ _ _ _ _ _ _ _ _ _ _ _ _ _ _ _ _ _ _ _ _ _ _ _ _ _ _ _ _ _ _ _ _ _ _ _ _ _ _ _ _ _ _ _ _ _ _ _ _ _ _ _ _ _ _ _ _ _ _ _ _ _ _ _ _ _ _ _ _ _ _ _ _ _ _ _ _ _ _ _ w3 ⟨[], List.replicate N false, List.replicate cl 0, 0, none⟩ rfl (by simp) (by simp) (by rw [HN.out]) rfl ⟨_, _, HR.out⟩ ?_ ?_
  · intro u5 u6 u7 u9 u16 u17 u18 u19 u20 u21 u22 u23 u24 u25 u26 u27 u28 u29 u30 u31 u32 u33 u34 u35 u36 u37 u38 u39 u40 u41 u42 u43 u44 u45 u46 u47 u48 u49 u50 u51 u52 u53 u54 u55 u56 u57 u58 u59 u60 u61 u62 u63 u64 u65 u66 u67 u68 u69 u70 u71 u72 u73 u74 u75 u76 u77 u78 u79 u80 u81 u82 u83 u84 u85 u86 u87 u88 u89 u90 u91 u92 u93 u94 u95 u96 u97 u98 u99 u100 u101 u102 u103 u104 u105 u106 u107 u108 u109 u110 u111 u112 u113 u114 u115 u116 u117 u118 u119 u120 u121 u122 u123 u124 u125 u126 u127 u128 u129 u130 u131 u132 u133 u134 u135 u136 u137 u138 u139 u140 u141 u142 u143 u144 u145 u146 u147 u148 u149 u150 u151 u152 u153 u154 u155 u156 u157 u158 u159 u160 u161 u162 u163 u164 u165 u166 u167 u168 u169 u170 u171 u172 u173 u174 u175 u176 u177 u178 u179 u180 u181 u182 u183 u184 u185 u186 u187 u188 u189 u190 u191 u192 u193 u194 u195 u196 u197 u198 u199 u200 u201 u202 u203 u204 u205 u206 u207 u208 u209 u210 u211 u212 u213 u214 u215 u216 u217 u218 u219 u220 u221 u222 u223 u224 u225 u226 u227 u228 u229 u230 u231 u232 u233 u234 u235 vb steps w4 hR ⟨V, ws, s', hr'⟩
    have HB1 := Lib.hid hr'.below
    have HF1 := Lib.hid hr'.found
    simp only [] at HF1
    have r0 : w4.cell? ⟨w.heap.size + 1, 0, none⟩ = some (.bool false) := HF1.out.cell 0
    have r1 : w4.cell? ⟨w.heap.size + 1, 1, none⟩ = some (.slice none 0 0) := HF1.out.cell 1
    have r2 : w4.cell? ⟨w.heap.size + 1, 2, none⟩ = some (.int .i64 0) := HF1.out.cell 2
    have r3 : w4.cell? ⟨w.heap.size + 1, 3, none⟩ = some (.int .i64 0) := HF1.out.cell 3
    have s0 := HF1.out.frozen 0
    have s1 := HF1.out.frozen 1
    have s2 := HF1.out.frozen 2
    have s3 := HF1.out.frozen 3
    have s4 := HF1.out.lt
    have HRR := Lib.hid hR
    clear hr' hR
    go_wp2_with fail
    simp only [Exit.noGoto]
    go_step
    have hk := fun u0 u1 u2 u3 => (((Kept.setCell (w := w4) ⟨w.heap.size + 1, 0, none⟩ u0).trans (Kept.setCell ⟨w.heap.size + 1, 1, none⟩ u1)).trans (Kept.setCell ⟨w.heap.size + 1, 2, none⟩ u2)).trans (Kept.setCell ⟨w.heap.size + 1, 3, none⟩ u3)
    refine bodyPost_ret (results_cell_tmp_row rfl _ _ (w.heap.size + 1) _ #[.bool false, .slice none 0 0, .int .i64 0, .int .i64 (steps : Int)] d rfl ((((HF1.out.set_ 0 (.bool false)).set_ 1 (.slice none 0 0)).set_ 2 (.int .i64 0)).set_ 3 (.int .i64 (steps : Int))) hu hd size_found) rfl ?_
    rw [Int.toNat_natCast, HRR.out]
    exact ⟨.slice none 0 0, rfl, World.ownsRow_nil _ _ _ _, Below.kept HB1.out (hk _ _ _ _) (by intro g hg; simp at hg; omega) HB1.out.size⟩
  · intro a w' cv cs which steps hR ha1 ha2 ha3 hfd
    simp only [Exit.inBlock, Exit.then, Exit.noGoto]
    go_step
    have hres := results_cell_tmp_row (P := Try.prog) (fn := Try.f8) rfl a.tmps w' (w.heap.size + 1) _ #[.bool true, cv, .int .i64 which, .int .i64 (steps : Int)] d ha1 hfd.blk hu hd size_found
    rw [ha2] at hres
    refine bodyPost_ret hres ha3 ?_
    rw [Int.toNat_natCast, hR]
    exact ⟨cv, rfl, hfd.own, hfd.below⟩

set_option maxRecDepth 1000000 in
set_option maxHeartbeats 4000000 in
theorem run_any (A At : Option Addr) (n c nt ct : Nat) (L : List InV) (t : List Int) (start caps at_ : Int) (anch : Bool) (w : World) (hP : ReadsP w w.heap.size A n c L) (hT : Reads w w.heap.size 1 At nt ct (t.map (Value.int .i64)))
    
    : Calls Try.prog 8 #[.agg #[.slice A n c, .int .i64 start, .int .i64 caps], .slice At nt ct, .int .i64 at_, .bool anch] w fun e w' => RunPost w.heap.size w (runR ⟨insL L, start, caps⟩ t at_ anch) e w' := by
  have htl : t.length = nt := by have := hT.len; simpa using this
  have hnl : (insL L).length = n := by rw [insL, List.length_map]; exact hP.len
  unfold runR
  simp only [htl, hnl]
  by_cases h1 : 4194304 < nt
  · rw [if_pos h1]
    exact run_long A At n c nt ct L t start caps at_ anch w hP hT h1
  rw [if_neg h1]
  cases hc : checkB ⟨insL L, start, caps⟩ with
  | false =>
    rw [if_pos rfl]
    exact run_prog A At n c nt ct L t start caps at_ anch w hP hT (by omega) hc
  | true =>
    rw [if_neg (by decide)]
    by_cases h2 : at_ < 0 ∨ (nt : Int) < at_
    · rw [if_pos h2]
      exact run_arg A At n c nt ct L t start caps at_ anch w hP hT (by omega) hc h2
    rw [if_neg h2]
    by_cases h3 : 16777216 < n * (nt - at_.toNat + 1)
    · rw [if_pos h3]
      exact run_big A At n c nt ct L t start caps at_ anch w hP hT (by omega) hc (by omega) h3
    rw [if_neg h3]
    have := run_main A At n c nt ct L t start caps at_ anch w hP hT (by omega) hc (by omega) (by omega)
    rw [htl, hnl] at this
    exact this
end Go.Proofs.Ytclbbfkgdhmheaa
