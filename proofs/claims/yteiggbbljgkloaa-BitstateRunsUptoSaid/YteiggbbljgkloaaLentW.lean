/- heronlaw12.Lent: the walk. -/
import Derived.Test.YteiggbbljgkloaaLentP
import Derived.Test.YteiggbbljgkloaaCopyW
namespace Go.Proofs.Yteiggbbljgkloaa
open Go.RowKit Go.Proofs.Yteiggbbljgkloaa.Mach

/-- A program lent: its row with a mark behind it, each list of ranges with a mark behind it. -/
structure LentPr (w : World) (B g : Nat) (L L' : List InV) : Prop where
  len : insL L' = insL L
  row : Blk w g 53 (insRow L' ++ [.int .i64 (-77), .int .i64 0, .int .i64 0, .int .i64 0, .slice none 0 0])
  lo : B ≤ g
  each : ∀ v ∈ L', LentV w B v

set_option maxRecDepth 100000 in
set_option maxHeartbeats 4000000 in
theorem lentP_any (A : Option Addr) (n c : Nat) (L : List InV) (start caps : Int) (w : World) (hr : ReadsP w w.heap.size A n c L) (hn : n ≤ 1048576) (hns : ∀ v ∈ L, v.n ≤ 1048576) :
    Calls Try.prog 7 #[.agg #[.slice A n c, .int .i64 start, .int .i64 caps]] w fun e w' =>
      e = .returned (.agg #[.slice (some ⟨(w.heap.size + 1 + 1), 0, none⟩) n (n + 1), .int .i64 start, .int .i64 caps]) ∧ Below w.heap.size w w' ∧ ∃ L', LentPr w' w.heap.size (w.heap.size + 1 + 1) L L' := by
  obtain ⟨iI, hiI, hz0I, hz1I, hz2I⟩ := info_parts info_inst
  obtain ⟨iR, hiR, hz0R, hz1R, hz2R⟩ := info_parts info_range
  have hlen := hr.len
  have hnc := hr.1.le
  have hcap := hr.1.cap
  have hmkI : ∀ u : World, (Instr.makeSlice 22 (.int .i64 ((n : Int) + 1)) (.int .i64 ((n : Int) + 1))).run Try.prog u =
      .ok (.slice (some ⟨u.heap.size, 0, none⟩) (n + 1) (n + 1)) (u.alloc (.cells (zRow (n + 1)).toArray 53)) := fun u => by
    have h := run_make (P := Try.prog) u 22 53 iI _ Try.underlying22 hiI hz0I .i64 .i64 ((n : Int) + 1) ((n : Int) + 1) (by omega) (Int.le_refl _) (by rw [hz2I]; omega) (by omega)
    have e : ((n : Int) + 1).toNat = n + 1 := by omega
    have hmd := made_ins (n + 1)
    rw [e, hz1I] at h
    rw [← hmd]
    simpa [Value.cells] using h
  have hmkR : ∀ (m : Nat) (u : World), m ≤ 1048576 → (Instr.makeSlice 51 (.int .i64 ((m : Int) + 1)) (.int .i64 ((m : Int) + 1))).run Try.prog u =
      .ok (.slice (some ⟨u.heap.size, 0, none⟩) (m + 1) (m + 1)) (u.alloc (.cells (flat (List.replicate (m + 1) (0, 0))).toArray 55)) := fun m u hm => by
    have h := run_make (P := Try.prog) u 51 55 iR _ Try.underlying51 hiR hz0R .i64 .i64 ((m : Int) + 1) ((m : Int) + 1) (by omega) (Int.le_refl _) (by rw [hz2R]; omega) (by omega)
    have e : ((m : Int) + 1).toNat = m + 1 := by omega
    have hmd := made_rng (m + 1)
    rw [e, hz1R] at h
    rw [← hmd]
    simpa [Value.cells] using h
  have HMR := Lib.hid hmkR
  have HLEN := Lib.hid hlen
  have HR := Lib.hid hr
  have HNS := Lib.hid hns
  clear hmkR hlen hr hns hiI hz0I hz1I hz2I hiR hz0R hz1R hz2R
  have hs1 : (w.alloc (.cells #[.slice A n c, .int .i64 start, .int .i64 caps] 24)).heap.size = w.heap.size + 1 := by simp
  have hs2 : ((w.alloc (.cells #[.slice A n c, .int .i64 start, .int .i64 caps] 24)).alloc (.cells #[.slice none 0 0, .int .i64 0, .int .i64 0] 24)).heap.size = w.heap.size + 1 + 1 := by simp
  have hbP : Blk (((w.alloc (.cells #[.slice A n c, .int .i64 start, .int .i64 caps] 24)).alloc (.cells #[.slice none 0 0, .int .i64 0, .int .i64 0] 24)).alloc (.cells (zRow (n + 1)).toArray 53)) w.heap.size 24 [.slice A n c, .int .i64 start, .int .i64 caps] := ((Blk.new w _ [.slice A n c, .int .i64 start, .int .i64 caps]).alloc _).alloc _
  have hbR : Blk (((w.alloc (.cells #[.slice A n c, .int .i64 start, .int .i64 caps] 24)).alloc (.cells #[.slice none 0 0, .int .i64 0, .int .i64 0] 24)).alloc (.cells (zRow (n + 1)).toArray 53)) (w.heap.size + 1) 24 [.slice none 0 0, .int .i64 0, .int .i64 0] := by
    rw [← hs1]; exact (Blk.new (w.alloc (.cells #[.slice A n c, .int .i64 start, .int .i64 caps] 24)) 24 [.slice none 0 0, .int .i64 0, .int .i64 0]).alloc _
  have hbG : Blk (((w.alloc (.cells #[.slice A n c, .int .i64 start, .int .i64 caps] 24)).alloc (.cells #[.slice none 0 0, .int .i64 0, .int .i64 0] 24)).alloc (.cells (zRow (n + 1)).toArray 53)) (w.heap.size + 1 + 1) 53 (zRow (n + 1)) := by
    rw [← hs2]; exact Blk.new ((w.alloc (.cells #[.slice A n c, .int .i64 start, .int .i64 caps] 24)).alloc (.cells #[.slice none 0 0, .int .i64 0, .int .i64 0] 24)) 53 (zRow (n + 1))
  have hb0 : Below w.heap.size w (((w.alloc (.cells #[.slice A n c, .int .i64 start, .int .i64 caps] 24)).alloc (.cells #[.slice none 0 0, .int .i64 0, .int .i64 0] 24)).alloc (.cells (zRow (n + 1)).toArray 53)) := (((Below.refl _ _).alloc (Nat.le_refl _) _).alloc (by simp) _).alloc (by simp; omega) _
  have HBP := Lib.hid hbP
  have HBR := Lib.hid hbR
  have HBG := Lib.hid hbG
  have HB0 := Lib.hid hb0
  clear hbP hbR hbG hb0 hs1 hs2
  go_enter Try.func7, Try.ntmps7
  go_wp2_with fail
  generalize (((w.alloc (.cells #[.slice A n c, .int .i64 start, .int .i64 caps] 24)).alloc (.cells #[.slice none 0 0, .int .i64 0, .int .i64 0] 24)).alloc (.cells (zRow (n + 1)).toArray 53)) = w0 at *
  clear hmkI
  obtain ⟨g0, hg0⟩ : ∃ g0, g0 = (w.heap.size + 1 + 1) := ⟨_, rfl⟩
  rw [← hg0] at HBG ⊢
  have HG0 := Lib.hid hg0
  have hg1 : w.heap.size + 1 < g0 := by omega
  clear hg0
  go_loopw [4] (fun q wr => ∃ (i : Nat) (L' : List InV), i ≤ n ∧ q = .int .i64 i ∧ L'.length = i ∧ insL L' = (insL L).take i ∧ Blk wr w.heap.size 24 [.slice A n c, .int .i64 start, .int .i64 caps] ∧ Blk wr (w.heap.size + 1) 24 [.slice none 0 0, .int .i64 0, .int .i64 0] ∧ Blk wr g0 53 (insRow L' ++ zRow (n + 1 - i)) ∧ (∀ v ∈ L', LentV wr w.heap.size v) ∧ Below w.heap.size w wr) (fun q _ => n - (intOf q).toNat)
  case atStart => exact ⟨0, [], Nat.zero_le _, rfl, rfl, rfl, HBP.out, HBR.out, HBG.out, by simp, HB0.out⟩
  case round =>
    obtain ⟨i, L', hi, rfl, hL1, hL2, hP, hR, hG, hE, hB⟩ := hrel
    have p0 : wr.cell? ⟨w.heap.size, 0, none⟩ = some (.slice A n c) := hP.cell 0
    have p4 := hP.lt
    have g4 := hG.lt
    have HP := Lib.hid hP
    have HRR := Lib.hid hR
    have HG := Lib.hid hG
    have HE := Lib.hid hE
    have HB := Lib.hid hB
    have HL1 := Lib.hid hL1
    have HL2 := Lib.hid hL2
    clear hP hR hE
    by_cases hlt : i < n
    · have hlt2 : (i : Int) < (n : Int) := by omega
      obtain ⟨v, hv⟩ : ∃ v, L[i]? = some v := ⟨_, List.getElem?_eq_getElem (by have := HLEN.out; omega)⟩
      have hvn := HNS.out v (List.mem_of_getElem? hv)
      have hrw := HR.out.below hB
      obtain ⟨ab, ao, hA, hab⟩ := hrw.at_ (by omega)
      subst hA
      obtain ⟨i0, i1, i2, i3, i4⟩ := hrw.cells hv
      have hrv := (hrw.2 v (List.mem_of_getElem? hv)).1
      have HV := Lib.hid hv
      have hzr : zRow (n + 1 - i) = .int .i64 0 :: .int .i64 0 :: .int .i64 0 :: .int .i64 0 :: .slice none 0 0 :: zRow (n + 1 - (i + 1)) := by
        rw [show n + 1 - i = (n + 1 - (i + 1)) + 1 from by omega]; rfl
      have zc : ∀ q u, q < 5 → zIns[q]? = some u → wr.cell? ⟨g0, i * 5 + q, none⟩ = some u := fun q u hq hu => by
        rw [hG.cell, ← hL1, row_at, hL1, hzr]
        rcases (show q = 0 ∨ q = 1 ∨ q = 2 ∨ q = 3 ∨ q = 4 from by omega) with rfl | rfl | rfl | rfl | rfl <;> simpa [zIns] using hu
      have z0 := zc 0 _ (by omega) rfl
      have z1 := zc 1 _ (by omega) rfl
      have z2 := zc 2 _ (by omega) rfl
      have z3 := zc 3 _ (by omega) rfl
      have z4 := zc 4 _ (by omega) rfl
      rw [Nat.add_zero] at z0
      have y0 := hG.frozen (i * 5)
      have y1 := hG.frozen (i * 5 + 1)
      have y2 := hG.frozen (i * 5 + 2)
      have y3 := hG.frozen (i * 5 + 3)
      have y4 := hG.frozen (i * 5 + 4)
      have hgA : ab ≠ g0 := by omega
      have hgP : w.heap.size ≠ g0 := by omega
      have hBs := hB.size
      obtain ⟨⟨op, x, y, arg, rng⟩, vA, vn, vc⟩ := v
      simp only [] at i0 i1 i2 i3 i4 hrv hvn
      have hmk := fun u => HMR.out vn u hvn
      have hrl : rng.length = vn := by have := hrv.len; rw [flat_length] at this; omega
      have hvle := hrv.le
      have hvcap := hrv.cap
      -- the five cells are written, the list of ranges is made
      have hG5 := ((((hG.set_ (i * 5) (.int .i64 op)).set_ (i * 5 + 1) (.int .i64 x)).set_ (i * 5 + 2) (.int .i64 y)).set_ (i * 5 + 3) (.int .i64 arg)).set_ (i * 5 + 4) (.slice vA vn vc)
      rw [hzr] at hG5
      have hl5 := row_set5 L' (zRow (n + 1 - (i + 1))) (.int .i64 op) (.int .i64 x) (.int .i64 y) (.int .i64 arg) (.slice vA vn vc) (.int .i64 0) (.int .i64 0) (.int .i64 0) (.int .i64 0) (.slice none 0 0)
      rw [hL1] at hl5
      rw [hl5] at hG5
      have hk5 : Kept wr (((((wr.setCell ⟨g0, i * 5, none⟩ (.int .i64 op)).setCell ⟨g0, i * 5 + 1, none⟩ (.int .i64 x)).setCell ⟨g0, i * 5 + 2, none⟩ (.int .i64 y)).setCell ⟨g0, i * 5 + 3, none⟩ (.int .i64 arg)).setCell ⟨g0, i * 5 + 4, none⟩ (.slice vA vn vc)) [g0] := (((((Kept.setCell (w := wr) ⟨g0, i * 5, none⟩ (.int .i64 op)).trans (Kept.setCell ⟨g0, i * 5 + 1, none⟩ (.int .i64 x))).trans (Kept.setCell ⟨g0, i * 5 + 2, none⟩ (.int .i64 y))).trans (Kept.setCell ⟨g0, i * 5 + 3, none⟩ (.int .i64 arg))).trans (Kept.setCell ⟨g0, i * 5 + 4, none⟩ (.slice vA vn vc))).more (by intro k hk; simp at hk ⊢; exact .inl hk)
      have hsz5 : (((((wr.setCell ⟨g0, i * 5, none⟩ (.int .i64 op)).setCell ⟨g0, i * 5 + 1, none⟩ (.int .i64 x)).setCell ⟨g0, i * 5 + 2, none⟩ (.int .i64 y)).setCell ⟨g0, i * 5 + 3, none⟩ (.int .i64 arg)).setCell ⟨g0, i * 5 + 4, none⟩ (.slice vA vn vc)).heap.size = wr.heap.size := by simp [World.setCell]
      have HG5 := Lib.hid hG5
      have HK5 := Lib.hid hk5
      have HZ5 := Lib.hid hsz5
      have HRV := Lib.hid hrv
      have HI4 := Lib.hid (show wr.cell? ⟨ab, ao + i * 5 + 4, none⟩ = some (.slice vA vn vc) ∧ ab < wr.heap.size from ⟨i4, by omega⟩)
      have HRL := Lib.hid hrl
      clear hv hrw hrv zc hG hzr hG5 hl5 hk5 hsz5 hrl hB hL1 hL2
      iterate 61 (first | go_skip | go_guarded | go_step | go_upon)
      have HP5 := Lib.hid (HP.out.kept HK5.out (by rw [List.mem_singleton]; exact hgP))
      have p5 : (((((wr.setCell ⟨g0, i * 5, none⟩ (.int .i64 op)).setCell ⟨g0, i * 5 + 1, none⟩ (.int .i64 x)).setCell ⟨g0, i * 5 + 2, none⟩ (.int .i64 y)).setCell ⟨g0, i * 5 + 3, none⟩ (.int .i64 arg)).setCell ⟨g0, i * 5 + 4, none⟩ (.slice vA vn vc)).cell? ⟨w.heap.size, 0, none⟩ = some (.slice (some ⟨ab, ao, none⟩) n c) := HP5.out.cell 0
      have a5 : (((((wr.setCell ⟨g0, i * 5, none⟩ (.int .i64 op)).setCell ⟨g0, i * 5 + 1, none⟩ (.int .i64 x)).setCell ⟨g0, i * 5 + 2, none⟩ (.int .i64 y)).setCell ⟨g0, i * 5 + 3, none⟩ (.int .i64 arg)).setCell ⟨g0, i * 5 + 4, none⟩ (.slice vA vn vc)).cell? ⟨ab, ao + i * 5 + 4, none⟩ = some (.slice vA vn vc) := (HK5.out.cell (p := ⟨ab, ao + i * 5 + 4, none⟩) HI4.out.2 (by rw [List.mem_singleton]; exact hgA)).trans HI4.out.1
      have l5 : ab < (((((wr.setCell ⟨g0, i * 5, none⟩ (.int .i64 op)).setCell ⟨g0, i * 5 + 1, none⟩ (.int .i64 x)).setCell ⟨g0, i * 5 + 2, none⟩ (.int .i64 y)).setCell ⟨g0, i * 5 + 3, none⟩ (.int .i64 arg)).setCell ⟨g0, i * 5 + 4, none⟩ (.slice vA vn vc)).heap.size := by rw [HZ5.out]; exact HI4.out.2
      have q5 : w.heap.size < (((((wr.setCell ⟨g0, i * 5, none⟩ (.int .i64 op)).setCell ⟨g0, i * 5 + 1, none⟩ (.int .i64 x)).setCell ⟨g0, i * 5 + 2, none⟩ (.int .i64 y)).setCell ⟨g0, i * 5 + 3, none⟩ (.int .i64 arg)).setCell ⟨g0, i * 5 + 4, none⟩ (.slice vA vn vc)).heap.size := by rw [HZ5.out]; exact p4
      have r5 : g0 < (((((wr.setCell ⟨g0, i * 5, none⟩ (.int .i64 op)).setCell ⟨g0, i * 5 + 1, none⟩ (.int .i64 x)).setCell ⟨g0, i * 5 + 2, none⟩ (.int .i64 y)).setCell ⟨g0, i * 5 + 3, none⟩ (.int .i64 arg)).setCell ⟨g0, i * 5 + 4, none⟩ (.slice vA vn vc)).heap.size := by rw [HZ5.out]; exact g4
      have HB5 := Lib.hid (HK5.out.below (B := w.heap.size) (by intro g hg; rw [List.mem_singleton] at hg; omega) hBs)
      have HS5 := Lib.hid (HRV.out.below HB5.out)
      have HE5 := Lib.hid (fun v hv => (HE.out v hv).kept HK5.out HG.out (by decide))
      have HRR5 := Lib.hid (HRR.out.kept HK5.out (by rw [List.mem_singleton]; omega))
      clear z0 z1 z2 z3 z4 y0 y1 y2 y3 y4 i0 i1 i2 i3 i4 p0
      generalize (((((wr.setCell ⟨g0, i * 5, none⟩ (.int .i64 op)).setCell ⟨g0, i * 5 + 1, none⟩ (.int .i64 x)).setCell ⟨g0, i * 5 + 2, none⟩ (.int .i64 y)).setCell ⟨g0, i * 5 + 3, none⟩ (.int .i64 arg)).setCell ⟨g0, i * 5 + 4, none⟩ (.slice vA vn vc)) = w5 at *
      have hmk := fun u => HMR.out vn u hvn
      have HC5 := Lib.hid (fun h => copied (HS5.out.alloc (by have := HB5.out.size; omega) (.cells (flat (List.replicate (vn + 1) (0, 0))).toArray 55)) h)
      --B--
      iterate 57 (first | go_skip | go_guarded | go_step | go_upon)
      refine wpList_copy_wide rfl (.tmp 35) (.tmp 41) 51 51 rfl 55 2 Try.underlying51 size_range vA w5.heap.size 0 _ _ _ _ rfl rfl (flat (List.replicate (vn + 1) ((0 : Int), (0 : Int)))) 55 (Blk.new w5 55 (flat (List.replicate (vn + 1) ((0 : Int), (0 : Int))))).raw (flat rng) (by rw [flat_length, HRL.out, show Nat.min vn (vn + 1) = vn from Nat.min_eq_left (by omega)]) HC5.out (by rw [flat_length, flat_length, HRL.out, List.length_replicate]; omega) (flat_one rng) ?_
      intro w7 hw7 hb7 hz7
      have hspl : splice (flat (List.replicate (vn + 1) ((0 : Int), (0 : Int)))) 0 (flat rng) = flat rng ++ [.int .i64 0, .int .i64 0] := by
        unfold splice
        have e1 : (flat (List.replicate (vn + 1) ((0 : Int), (0 : Int)))).drop (0 + (flat rng).length) = [.int .i64 0, .int .i64 0] := by
          rw [flat_length, HRL.out, List.replicate_succ', flat_append, Nat.zero_add, List.drop_left' (by rw [flat_length, List.length_replicate])]
          rfl
        rw [e1]; simp
      rw [hspl] at hw7
      have hfl : (flat rng).length = vn * 2 := by rw [flat_length, HRL.out]
      have x0 : w7.cell? ⟨w5.heap.size, vn * 2, none⟩ = some (.int .i64 0) := by rw [hw7.cell, List.getElem?_append_right (by omega), hfl, Nat.sub_self]; rfl
      have x1 : w7.cell? ⟨w5.heap.size, vn * 2 + 1, none⟩ = some (.int .i64 0) := by rw [hw7.cell, List.getElem?_append_right (by omega), hfl, Nat.add_sub_cancel_left]; rfl
      have x2 := hw7.frozen (vn * 2)
      have x3 := hw7.frozen (vn * 2 + 1)
      have hb57 : Below w5.heap.size w5 w7 := ((Below.refl _ _).alloc (Nat.le_refl _) (.cells (flat (List.replicate (vn + 1) (0, 0))).toArray 55)).trans hb7
      have p7 : w7.cell? ⟨w.heap.size, 0, none⟩ = some (.slice (some ⟨ab, ao, none⟩) n c) := (hb57.cell (p := ⟨w.heap.size, 0, none⟩) q5).trans p5
      have a7 : w7.cell? ⟨ab, ao + i * 5 + 4, none⟩ = some (.slice vA vn vc) := (hb57.cell (p := ⟨ab, ao + i * 5 + 4, none⟩) l5).trans a5
      have HG7 := Lib.hid (HG5.out.below hb57 HG5.out.lt)
      have u4 : w7.cell? ⟨g0, i * 5 + 4, none⟩ = some (.slice vA vn vc) := by
        rw [HG7.out.cell, ← HL1.out, row_at]; rfl
      have u5 := HG7.out.frozen (i * 5 + 4)
      have n1 : w.heap.size ≠ w5.heap.size := by omega
      have n2 : ab ≠ w5.heap.size := by omega
      have n3 : g0 ≠ w5.heap.size := by omega
      have HW7 := Lib.hid hw7
      have HB57 := Lib.hid hb57
      have HFL := Lib.hid hfl
      have hvn2 : (vn : Int) < (vn : Int) + 1 := by omega
      clear hw7 hb7 hz7 hspl hb57 hfl hmk p5 a5
      go_wp2_with fail
      go_roundw
      case rel =>
        have hl := HL1.out
        have hb8 : Below w5.heap.size w5 ((w7.setCell ⟨w5.heap.size, vn * 2, none⟩ (.int .i64 (-77))).setCell ⟨w5.heap.size, vn * 2 + 1, none⟩ (.int .i64 0)) := (HB57.out.setCell (p := ⟨w5.heap.size, vn * 2, none⟩) (Nat.le_refl _) _).setCell (p := ⟨w5.heap.size, vn * 2 + 1, none⟩) (Nat.le_refl _) _
        have hw8 := (HW7.out.set_ (vn * 2) (.int .i64 (-77))).set_ (vn * 2 + 1) (.int .i64 0)
        rw [List.set_append_right _ _ (by have := HFL.out; omega), HFL.out, Nat.sub_self, List.set_append_right _ _ (by have := HFL.out; omega), HFL.out, Nat.add_sub_cancel_left] at hw8
        have hG8 := HG5.out.below hb8 HG5.out.lt
        generalize (w7.setCell ⟨w5.heap.size, vn * 2, none⟩ (.int .i64 (-77))).setCell ⟨w5.heap.size, vn * 2 + 1, none⟩ (.int .i64 0) = w8 at *
        have hk9 := Kept.setCell (w := w8) ⟨g0, i * 5 + 4, none⟩ (.slice (some ⟨w5.heap.size, 0, none⟩) vn (vn + 1))
        have hP8 := HP5.out.below hb8 HP5.out.lt
        have hR8 := HRR5.out.below hb8 HRR5.out.lt
        have hg9 := hG8.set_ (i * 5 + 4) (.slice (some ⟨w5.heap.size, 0, none⟩) vn (vn + 1))
        have hw9 := hw8.kept hk9 (by rw [List.mem_singleton]; exact n3.symm)
        refine ⟨i + 1, L' ++ [⟨⟨op, x, y, arg, rng⟩, some ⟨w5.heap.size, 0, none⟩, vn, vn + 1⟩], hlt, by go_num, by simp [hl], ?_, hP8.kept hk9 (by rw [List.mem_singleton]; exact hgP), hR8.kept hk9 (by rw [List.mem_singleton]; exact Nat.ne_of_lt hg1), ?_, ?_, ?_⟩
        · rw [List.take_add_one, ← HL2.out]
          have : (insL L)[i]? = some ⟨op, x, y, arg, rng⟩ := by unfold insL; rw [List.getElem?_map, HV.out]; rfl
          rw [this]
          simp [insL]
        · have e := row_set5 L' (zRow (n + 1 - (i + 1))) (.int .i64 op) (.int .i64 x) (.int .i64 y) (.int .i64 arg) (.slice (some ⟨w5.heap.size, 0, none⟩) vn (vn + 1)) (.int .i64 op) (.int .i64 x) (.int .i64 y) (.int .i64 arg) (.slice vA vn vc)
          rw [insRow_snoc, List.append_assoc]
          have e2 : (insRow L' ++ (.int .i64 op :: .int .i64 x :: .int .i64 y :: .int .i64 arg :: .slice vA vn vc :: zRow (n + 1 - (i + 1)))).set (i * 5 + 4) (.slice (some ⟨w5.heap.size, 0, none⟩) vn (vn + 1)) = insRow L' ++ (.int .i64 op :: .int .i64 x :: .int .i64 y :: .int .i64 arg :: .slice (some ⟨w5.heap.size, 0, none⟩) vn (vn + 1) :: zRow (n + 1 - (i + 1))) := by
            rw [← hl, List.set_append_right _ _ (by rw [insRow_length]; omega), insRow_length, Nat.add_sub_cancel_left]; rfl
          rw [e2] at hg9
          exact hg9
        · intro v hv
          rw [List.mem_append, List.mem_singleton] at hv
          rcases hv with hv | rfl
          · exact ((HE5.out v hv).below hb8).kept hk9 hG8 (by decide)
          · exact ⟨HRL.out, rfl, w5.heap.size, rfl, by omega, hw9⟩
        · exact Below.kept ((HB.out.trans HB5.out).trans (hb8.mono (by omega))) hk9 (by intro g hg; simp at hg; omega) (Nat.le_trans (Nat.le_of_lt q5) hb8.size)
      case measure => simp [intOf]; omega
    · obtain rfl : i = n := by omega
      have hzr : zRow (i + 1 - i) = [.int .i64 0, .int .i64 0, .int .i64 0, .int .i64 0, .slice none 0 0] := by rw [show i + 1 - i = 0 + 1 from by omega]; rfl
      rw [hzr] at hG HG
      have zc : ∀ q u, q < 5 → zIns[q]? = some u → wr.cell? ⟨g0, i * 5 + q, none⟩ = some u := fun q u hq hu => by
        rw [hG.cell, ← hL1, row_at]; exact hu
      have z0 := zc 0 _ (by omega) rfl
      have z1 := zc 1 _ (by omega) rfl
      have z2 := zc 2 _ (by omega) rfl
      have z3 := zc 3 _ (by omega) rfl
      have z4 := zc 4 _ (by omega) rfl
      rw [Nat.add_zero] at z0
      have y0 := hG.frozen (i * 5)
      have y1 := hG.frozen (i * 5 + 1)
      have y2 := hG.frozen (i * 5 + 2)
      have y3 := hG.frozen (i * 5 + 3)
      have y4 := hG.frozen (i * 5 + 4)
      have hgP : w.heap.size ≠ g0 := by omega
      have hgR : w.heap.size + 1 ≠ g0 := by omega
      have p1 : wr.cell? ⟨w.heap.size, 1, none⟩ = some (.int .i64 start) := HP.out.cell 1
      have p2 : wr.cell? ⟨w.heap.size, 2, none⟩ = some (.int .i64 caps) := HP.out.cell 2
      have p3 := HP.out.frozen 0
      have r0 : wr.cell? ⟨w.heap.size + 1, 0, none⟩ = some (.slice none 0 0) := HRR.out.cell 0
      have r1 : wr.cell? ⟨w.heap.size + 1, 1, none⟩ = some (.int .i64 0) := HRR.out.cell 1
      have r2 : wr.cell? ⟨w.heap.size + 1, 2, none⟩ = some (.int .i64 0) := HRR.out.cell 2
      have s0 := HRR.out.frozen 0
      have s1 := HRR.out.frozen 1
      have s2 := HRR.out.frozen 2
      have s3 := HRR.out.lt
      clear hG zc hzr hL1 hL2 hB
      iterate 93 (first | go_skip | go_guarded | go_step | go_upon)
      obtain ⟨d, hu, hd⟩ := und_prog
      have hg5 := ((((HG.out.set_ (i * 5) (.int .i64 (-77))).set_ (i * 5 + 1) (.int .i64 0)).set_ (i * 5 + 2) (.int .i64 0)).set_ (i * 5 + 3) (.int .i64 0)).set_ (i * 5 + 4) (.slice none 0 0)
      have e5 := row_set5 L' [] (.int .i64 (-77)) (.int .i64 0) (.int .i64 0) (.int .i64 0) (.slice none 0 0) (.int .i64 0) (.int .i64 0) (.int .i64 0) (.int .i64 0) (.slice none 0 0)
      rw [HL1.out] at e5
      rw [e5] at hg5
      have hk5 := (((((Kept.setCell (w := wr) ⟨g0, i * 5, none⟩ (.int .i64 (-77))).trans (Kept.setCell ⟨g0, i * 5 + 1, none⟩ (.int .i64 0))).trans (Kept.setCell ⟨g0, i * 5 + 2, none⟩ (.int .i64 0))).trans (Kept.setCell ⟨g0, i * 5 + 3, none⟩ (.int .i64 0))).trans (Kept.setCell ⟨g0, i * 5 + 4, none⟩ (.slice none 0 0))).more (M := [g0]) (by intro k hk; simp at hk ⊢; exact .inl hk)
      have hR5 := HRR.out.kept hk5 (by rw [List.mem_singleton]; exact hgR)
      have hE5 := fun v hv => (HE.out v hv).kept hk5 HG.out (by decide)
      generalize ((((wr.setCell ⟨g0, i * 5, none⟩ (.int .i64 (-77))).setCell ⟨g0, i * 5 + 1, none⟩ (.int .i64 0)).setCell ⟨g0, i * 5 + 2, none⟩ (.int .i64 0)).setCell ⟨g0, i * 5 + 3, none⟩ (.int .i64 0)).setCell ⟨g0, i * 5 + 4, none⟩ (.slice none 0 0) = w5 at *
      have hrp : w.heap.size + 1 ≠ w.heap.size := by omega
      have hR6 := (((hR5.far (p := ⟨w.heap.size, 0, none⟩) hrp (.slice (some ⟨g0, 0, none⟩) i (i + 1))).set_ 0 (.slice (some ⟨g0, 0, none⟩) i (i + 1))).set_ 1 (.int .i64 start)).set_ 2 (.int .i64 caps)
      have hk6 := ((((Kept.setCell (w := w5) ⟨w.heap.size, 0, none⟩ (.slice (some ⟨g0, 0, none⟩) i (i + 1))).trans (Kept.setCell ⟨w.heap.size + 1, 0, none⟩ (.slice (some ⟨g0, 0, none⟩) i (i + 1)))).trans (Kept.setCell ⟨w.heap.size + 1, 1, none⟩ (.int .i64 start))).trans (Kept.setCell ⟨w.heap.size + 1, 2, none⟩ (.int .i64 caps)))
      refine bodyPost_ret (results_cell_row rfl _ _ (w.heap.size + 1) _ #[.slice (some ⟨g0, 0, none⟩) i (i + 1), .int .i64 start, .int .i64 caps] d rfl hR6 hu hd size_prog) rfl ?_
      have hbs := HB.out.size
      refine ⟨by rw [HG0.out], Below.kept (Below.kept HB.out hk5 (by intro g hg; rw [List.mem_singleton] at hg; omega) hbs) hk6 (by intro g hg; simp at hg; omega) (Nat.le_trans hbs hk5.size), L', ⟨?_, ?_, by omega, ?_⟩⟩
      · rw [HL2.out, List.take_of_length_le (by unfold insL; rw [List.length_map]; have := HLEN.out; omega)]
      · rw [← HG0.out]
        exact hg5.kept hk6 (by intro hm; simp at hm; omega)
      · intro v hv
        obtain ⟨h1, h2, r, h3, h4, h5⟩ := hE5 v hv
        exact ⟨h1, h2, r, h3, h4, h5.kept hk6 (by
          have n1 := h5.ne_ hR5 (by decide)
          have n2 : r ≠ w.heap.size := fun e => by
            have hp5 := HP.out.kept hk5 (by rw [List.mem_singleton]; exact hgP)
            exact h5.ne_ hp5 (by decide) e
          intro hm; simp at hm; rcases hm with e | e
          · exact n2 e
          · exact n1 e)⟩
end Go.Proofs.Yteiggbbljgkloaa
