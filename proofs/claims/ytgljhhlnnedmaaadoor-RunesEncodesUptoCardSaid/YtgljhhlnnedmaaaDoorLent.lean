/- lent, back: bytes in memory of their own, with marks behind them. -/
import Derived.Test.YtgljhhlnnedmaaaDoorProg
import Derived.Test.YtgljhhlnnedmaaaDoorMem2
import Derived.Test.YtgljhhlnnedmaaaDoorRunesPure
import Derived.WalkLawsBesides
import Derived.BigQuiet
import Derived.Deep.QuietTactic
import Derived.Handy

namespace Go.Proofs.YtgljhhlnnedmaaaDoor
open Go.RowKit

theorem u8_info : (Tryd.prog.info? 5).map (fun i => (i.zero, i.size, i.bytes)) = some (some (.int .u8 0), 1, 1) := by kernel_rfl
theorem u8_size : (Tryd.prog.info? 5).map (·.size) = some 1 := by kernel_rfl

/-- bytes, a marks, as many noughts as are left of five. -/
def marks (bs : List Int) (a : Nat) : List Value := (bs ++ (List.replicate a 201 ++ List.replicate (5 - a) 0)).map (Value.int .u8)
theorem splice_marks {bs : List Int} {n : Nat} (h : bs.length = n) : splice ((List.replicate (n + 5) (0 : Int)).map (Value.int .u8)) 0 (bs.map (Value.int .u8)) = marks bs 0 := by
  unfold splice marks
  simp [h]
theorem marks_at {bs : List Int} {n a : Nat} (h : bs.length = n) (ha : a < 5) : (marks bs a)[n + a]? = some (.int .u8 0) := by
  unfold marks
  rw [List.getElem?_map, List.getElem?_append_right (by omega), List.getElem?_append_right (by simp; omega)]
  simp [h, List.getElem?_replicate]
  omega
theorem marks_set {bs : List Int} {n a : Nat} (h : bs.length = n) (ha : a < 5) : (marks bs a).set (n + a) (.int .u8 201) = marks bs (a + 1) := by
  unfold marks
  rw [List.map_append, List.map_append, List.set_append_right _ _ (by simp; omega), List.set_append_right _ _ (by simp; omega)]
  rcases (show a = 0 ∨ a = 1 ∨ a = 2 ∨ a = 3 ∨ a = 4 from by omega) with rfl | rfl | rfl | rfl | rfl <;> simp [h, List.replicate]

set_option maxRecDepth 100000 in
set_option maxHeartbeats 1000000 in
theorem lent_any (A : Option Addr) (n c B : Nat) (bs : List Int) (w : World) (hr : Reads w B 1 A n c (bs.map (Value.int .u8))) (hB : B ≤ w.heap.size) (hn : n ≤ 1048576) :
    Calls Tryd.prog 11 #[.slice A n c] w fun e w' => e = .returned (.slice (some ⟨w.heap.size, 0, none⟩) (n + 5) (n + 5)) ∧ Blk w' w.heap.size 5 ((bs ++ [201, 201, 201, 201, 201]).map (Value.int .u8)) ∧ Below w.heap.size w w' := by
  obtain ⟨i0, hi, hz0, hz1, hz2⟩ := info_parts u8_info
  have hlen := hr.len
  simp only [List.length_map, Nat.mul_one] at hlen
  have hcap := hr.cap
  have hnc := hr.le
  have HLEN := Lib.hid hlen
  clear hlen
  have hmk : ∀ u : World, (Instr.makeSlice 25 (.int .i64 ((n : Int) + 5)) (.int .i64 ((n : Int) + 5))).run Tryd.prog u =
      .ok (.slice (some ⟨u.heap.size, 0, none⟩) (n + 5) (n + 5)) (u.alloc (.cells (madeCells #[.int .u8 0] (n + 5)) 5)) := fun u => by
    have h := run_make (P := Tryd.prog) u 25 5 i0 (.int .u8 0) Tryd.underlying25 hi hz0 .i64 .i64 ((n : Int) + 5) ((n : Int) + 5) (by omega) (Int.le_refl _) (by rw [hz2]; omega) (by omega)
    have e : ((n : Int) + 5).toNat = n + 5 := by omega
    rw [e] at h
    simpa [hz1, Value.cells] using h
  obtain ⟨H, hH⟩ : ∃ H, H = w.heap.size := ⟨_, rfl⟩
  have hmd : madeCells #[.int .u8 0] (n + 5) = ((List.replicate (n + 5) (0 : Int)).map (Value.int .u8)).toArray := by
    apply Array.toList_inj.1
    rw [toList_madeCells_one]; simp
  rw [hmd] at hmk
  have hblk : Blk (w.alloc (.cells ((List.replicate (n + 5) (0 : Int)).map (Value.int .u8)).toArray 5)) w.heap.size 5 ((List.replicate (n + 5) (0 : Int)).map (Value.int .u8)) := Blk.new _ _ _
  have hrA : Reads (w.alloc (.cells ((List.replicate (n + 5) (0 : Int)).map (Value.int .u8)).toArray 5)) B 1 A n c (bs.map (Value.int .u8)) := hr.alloc hB _
  have hbA : Below w.heap.size w (w.alloc (.cells ((List.replicate (n + 5) (0 : Int)).map (Value.int .u8)).toArray 5)) := (Below.refl _ _).alloc (Nat.le_refl _) _
  clear hmd
  generalize hX : (List.replicate (n + 5) (0 : Int)).map (Value.int .u8) = X at *
  have HX := Lib.hid hX
  clear hX hr
  obtain ⟨Y, hY⟩ : ∃ Y, Y = bs.map (Value.int .u8) := ⟨_, rfl⟩
  rw [← hY] at hrA
  have HY := Lib.hid hY
  clear hY
  rw [← hH] at hbA hblk
  rw [← hH]
  have HH := Lib.hid hH
  clear hH
  go_enter Tryd.func11, Tryd.ntmps11
  have hYl : Y.length = n := by rw [HY.out, List.length_map]; exact HLEN.out
  have hXl : X.length = n + 5 := by rw [← HX.out]; simp
  have hY1 : ∀ v ∈ Y, v.oneCell' = true := by rw [HY.out]; exact ints_oneCell _ _
  have hcp : 0 < Y.length → (some (⟨w.heap.size, 0, none⟩ : Addr) = some ⟨w.heap.size, 0, none⟩) ∧ ∃ ad, A = some ad ∧ ∀ j v, Y[j]? = some v → (w.alloc (.cells X.toArray 5)).cell? (ad.add j) = some v := fun h => ⟨rfl, copied hrA h⟩
  have hmin : Y.length = Nat.min n (n + 5) := by rw [hYl]; exact (Nat.min_eq_left (by omega)).symm
  have hfit : 0 + Y.length ≤ X.length := by omega
  have HYL := Lib.hid hYl
  have HXL := Lib.hid hXl
  have HY1 := Lib.hid hY1
  have HCP := Lib.hid hcp
  have HMIN := Lib.hid hmin
  clear hYl hXl hY1 hcp hmin
  have hHw : H ≤ w.heap.size := by rw [HH.out]; exact Nat.le_refl _
  rw [HH.out] at hblk
  go_wp2_with (with_reducible refine wpList_copy_splice rfl (.tmp 9) (.tmp 10) 25 25 rfl 5 Tryd.underlying25 u8_size _ A _ _ _ _ rfl rfl w.heap.size 0 X 5 hblk.raw Y HMIN.out HCP.out hfit HY1.out H w hbA hHw ?_; intro w1 hw1 hb1)
  have hblk1 : Blk w1 w.heap.size 5 (marks bs 0) := by
    have := Blk.mk hw1.out
    rw [← HX.out, HY.out, splice_marks HLEN.out] at this
    exact this
  have hGH : H ≤ w.heap.size := hHw
  clear hw1 hblk hbA hrA
  generalize w.heap.size = G at *
  go_loopw [4] (fun i wr => ∃ a : Nat, a ≤ 5 ∧ i = .int .i64 (n + a : Nat) ∧ Blk wr G 5 (marks bs a) ∧ Below H w wr) (fun i _ => n + 5 - (intOf i).toNat)
  case atStart => exact ⟨0, by omega, rfl, hblk1, hb1⟩
  case round =>
    obtain ⟨a, ha, rfl, hbk, hbel⟩ := hrel
    by_cases hlt : a < 5
    · have hc : wr.cell? ⟨G, n + a, none⟩ = some (.int .u8 0) := by rw [hbk.cell]; exact marks_at HLEN.out hlt
      have hf : wr.frozen? ⟨G, n + a, none⟩ = false := hbk.frozen _
      have hst := hbk.set_ (n + a) (.int .u8 201)
      rw [marks_set HLEN.out hlt] at hst
      have hbe := hbel.setCell (p := ⟨G, n + a, none⟩) hGH (.int .u8 201)
      clear hbk hbel
      go_wp2_with fail
      go_roundw
      case rel => exact ⟨a + 1, by omega, by go_num, hst, hbe⟩
      case measure => simp [intOf]; omega
    · obtain rfl : a = 5 := by omega
      go_wp2_with fail
      go_ret
      have e := HH.out
      subst e
      exact ⟨rfl, by simpa [marks] using hbk, hbel⟩
end Go.Proofs.YtgljhhlnnedmaaaDoor
