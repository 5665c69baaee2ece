/- heronlaw12: LentText, KeptText: a text in memory of its own, with two marks behind it. -/
import Derived.Test.YteiggbbljgkloaaQSameF
import Derived.Test.YteiggbbljgkloaaQSetM
import Derived.WalkLawsBesides
import Derived.Handy
namespace Go.Proofs.Yteiggbbljgkloaa
open Go.RowKit

theorem int_size : (Try.prog.info? 3).map (·.size) = some 1 := by kernel_rfl

set_option maxRecDepth 100000 in
set_option maxHeartbeats 4000000 in
theorem lentT_any (A : Option Addr) (n c B : Nat) (t : List Int) (w : World) (hr : Reads w B 1 A n c (t.map (Value.int .i64))) (hB : B ≤ w.heap.size) (hn : n ≤ 1048576) :
    Calls Try.prog 8 #[.slice A n c] w fun e w' => e = .returned (.slice (some ⟨w.heap.size, 0, none⟩) n (n + 2)) ∧ Blk w' w.heap.size 3 ((t ++ [-71, -72]).map (Value.int .i64)) ∧ Below w.heap.size w w' := by
  obtain ⟨i0, hi, hz0, hz1, hz2⟩ := info_parts int_info
  have hlen := hr.len
  simp only [List.length_map, Nat.mul_one] at hlen
  have hcap := hr.cap
  have hnc := hr.le
  have HLEN := Lib.hid hlen
  clear hlen
  have hmk : ∀ u : World, (Instr.makeSlice 25 (.int .i64 ((n : Int) + 2)) (.int .i64 ((n : Int) + 2))).run Try.prog u =
      .ok (.slice (some ⟨u.heap.size, 0, none⟩) (n + 2) (n + 2)) (u.alloc (.cells (madeCells #[.int .i64 0] (n + 2)) 3)) := fun u => by
    have h := run_make (P := Try.prog) u 25 3 i0 (.int .i64 0) Try.underlying25 hi hz0 .i64 .i64 ((n : Int) + 2) ((n : Int) + 2) (by omega) (Int.le_refl _) (by rw [hz2]; omega) (by omega)
    have e : ((n : Int) + 2).toNat = n + 2 := by omega
    rw [e] at h
    simpa [hz1, Value.cells] using h
  obtain ⟨H, hH⟩ : ∃ H, H = w.heap.size := ⟨_, rfl⟩
  have hmd : madeCells #[.int .i64 0] (n + 2) = ((List.replicate (n + 2) (0 : Int)).map (Value.int .i64)).toArray := by
    apply Array.toList_inj.1
    rw [toList_madeCells_one]; simp
  rw [hmd] at hmk
  have hblk : Blk (w.alloc (.cells ((List.replicate (n + 2) (0 : Int)).map (Value.int .i64)).toArray 3)) w.heap.size 3 ((List.replicate (n + 2) (0 : Int)).map (Value.int .i64)) := Blk.new _ _ _
  have hrA : Reads (w.alloc (.cells ((List.replicate (n + 2) (0 : Int)).map (Value.int .i64)).toArray 3)) B 1 A n c (t.map (Value.int .i64)) := hr.alloc hB _
  have hbA : Below w.heap.size w (w.alloc (.cells ((List.replicate (n + 2) (0 : Int)).map (Value.int .i64)).toArray 3)) := (Below.refl _ _).alloc (Nat.le_refl _) _
  clear hmd
  generalize hX : (List.replicate (n + 2) (0 : Int)).map (Value.int .i64) = X at *
  have HX := Lib.hid hX
  clear hX hr
  obtain ⟨Y, hY⟩ : ∃ Y, Y = t.map (Value.int .i64) := ⟨_, rfl⟩
  rw [← hY] at hrA
  have HY := Lib.hid hY
  clear hY
  rw [← hH] at hbA hblk
  rw [← hH]
  have HH := Lib.hid hH
  clear hH
  go_enter Try.func8, Try.ntmps8
  have hYl : Y.length = n := by rw [HY.out, List.length_map]; exact HLEN.out
  have hXl : X.length = n + 2 := by rw [← HX.out]; simp
  have hY1 : ∀ v ∈ Y, v.oneCell' = true := by rw [HY.out]; exact ints_oneCell _ _
  have hcp : 0 < Y.length → (some (⟨w.heap.size, 0, none⟩ : Addr) = some ⟨w.heap.size, 0, none⟩) ∧ ∃ ad, A = some ad ∧ ∀ j v, Y[j]? = some v → (w.alloc (.cells X.toArray 3)).cell? (ad.add j) = some v := fun h => ⟨rfl, copied hrA h⟩
  have hmin : Y.length = Nat.min n (n + 2) := by rw [hYl]; exact (Nat.min_eq_left (by omega)).symm
  have hfit : 0 + Y.length ≤ X.length := by omega
  have HYL := Lib.hid hYl
  have HY1 := Lib.hid hY1
  have HCP := Lib.hid hcp
  have HMIN := Lib.hid hmin
  clear hYl hXl hY1 hcp hmin
  have hHw : H ≤ w.heap.size := by rw [HH.out]; exact Nat.le_refl _
  rw [HH.out] at hblk
  have g4 : ∀ u : World, Blk u w.heap.size 3 ((t ++ [0, 0]).map (Value.int .i64)) → u.cell? ⟨w.heap.size, n, none⟩ = some (.int .i64 0) ∧ u.cell? ⟨w.heap.size, n + 1, none⟩ = some (.int .i64 0) := fun u h => by
    constructor
    · rw [h.cell, List.getElem?_map, List.getElem?_append_right (by have := HLEN.out; omega), HLEN.out, Nat.sub_self]; rfl
    · rw [h.cell, List.getElem?_map, List.getElem?_append_right (by have := HLEN.out; omega), HLEN.out, Nat.add_sub_cancel_left]; rfl
  have G4 := Lib.hid g4
  have hspl : splice X 0 Y = (t ++ [0, 0]).map (Value.int .i64) := by
    have e := HLEN.out
    rw [← HX.out, HY.out]
    unfold splice
    simp [e]
  have HSP := Lib.hid hspl
  clear g4 hspl
  go_wp2_with (with_reducible refine wpList_copy_splice rfl (.tmp 8) (.tmp 9) 25 25 rfl 3 Try.underlying25 int_size _ A _ _ _ _ rfl rfl w.heap.size 0 X 3 hblk.raw Y HMIN.out HCP.out hfit HY1.out H w hbA hHw ?_; intro w1 hw1 hb1; have hblk1 : Blk w1 w.heap.size 3 ((t ++ [0, 0]).map (Value.int .i64)) := (by have := Blk.mk hw1.out; rw [HSP.out] at this; exact this); have q1 := (G4.out w1 hblk1).1; have q2 := (G4.out w1 hblk1).2; have q3 := hblk1.frozen n; have q4 := hblk1.frozen (n + 1); have HBK := Lib.hid hblk1; have HB1 := Lib.hid hb1; clear hw1 hblk1 hb1)
  go_ret
  have e := HH.out
  have hst := (HBK.out.set_ n (.int .i64 (-71))).set_ (n + 1) (.int .i64 (-72))
  rw [← List.map_set, ← List.map_set, List.set_append_right _ _ (by have := HLEN.out; omega), HLEN.out, Nat.sub_self, List.set_append_right _ _ (by have := HLEN.out; omega), HLEN.out, Nat.add_sub_cancel_left] at hst
  subst e
  exact ⟨rfl, by simpa using hst, (HB1.out.setCell (p := ⟨w.heap.size, n, none⟩) (Nat.le_refl _) _).setCell (p := ⟨w.heap.size, n + 1, none⟩) (Nat.le_refl _) _⟩

set_option maxRecDepth 100000 in
set_option maxHeartbeats 4000000 in
theorem keptT_any (A : Option Addr) (n c g : Nat) (t : List Int) (w : World) (hr : Reads w w.heap.size 1 A n c (t.map (Value.int .i64))) (hb : Blk w g 3 ((t ++ [-71, -72]).map (Value.int .i64))) (hn : n ≤ 1048576) :
    Calls Try.prog 12 #[.slice (some ⟨g, 0, none⟩) n (n + 2), .slice A n c] w fun e w' => e = .returned (.bool true) ∧ Below w.heap.size w w' := by
  have hlen : t.length = n := by have := hr.len; simpa using this
  have hcap := hr.cap
  have hnc := hr.le
  have q1 : w.cell? ⟨g, n, none⟩ = some (.int .i64 (-71)) := by rw [hb.cell, List.getElem?_map, List.getElem?_append_right (by omega), hlen, Nat.sub_self]; rfl
  have q2 : w.cell? ⟨g, n + 1, none⟩ = some (.int .i64 (-72)) := by rw [hb.cell, List.getElem?_map, List.getElem?_append_right (by omega), hlen, Nat.add_sub_cancel_left]; rfl
  have HQ1 := Lib.hid q1
  have HQ2 := Lib.hid q2
  have HR := Lib.hid hr
  have HB := Lib.hid hb
  have HLEN := Lib.hid hlen
  have hglt := hb.lt
  clear hr hb hlen q1 q2
  go_enter Try.func12, Try.ntmps12
  go_wp2_with fail
  go_loopw [6] (fun q wr => ∃ i : Nat, i ≤ n ∧ q = .int .i64 i ∧ Below w.heap.size w wr) (fun q _ => n - (intOf q).toNat)
  case atStart => exact ⟨0, Nat.zero_le _, rfl, Below.refl _ _⟩
  case round =>
    obtain ⟨i, hi, rfl, hbw⟩ := hrel
    have HBW := Lib.hid hbw
    clear hbw
    by_cases hlt : i < n
    · have hlt2 : (i : Int) < (n : Int) := by omega
      obtain ⟨a1, o1, hA1, hl1, hc1⟩ := HR.out.at_ (by omega)
      subst hA1
      obtain ⟨z, hz⟩ : ∃ z, t[i]? = some z := ⟨_, List.getElem?_eq_getElem (by have := HLEN.out; omega)⟩
      have e1 : wr.cell? ⟨a1, o1 + i, none⟩ = some (.int .i64 z) := (HBW.out.cell (p := ⟨a1, o1 + i, none⟩) hl1).trans (hc1 i _ (by rw [List.getElem?_map, hz]; rfl))
      have e2 : wr.cell? ⟨g, i, none⟩ = some (.int .i64 z) := by
        rw [HBW.out.cell (p := ⟨g, i, none⟩) hglt, HB.out.cell, List.getElem?_map, List.getElem?_append_left (by have := HLEN.out; omega), hz]; rfl
      have hzz : ((z : Int) != z) = false := by simp
      clear hc1 hz
      go_wp2_with fail
      go_quiet (fail)
      go_wp2_with fail
      go_roundw
      case rel => exact ⟨i + 1, by omega, by go_num, bdrewN HBW.out nq⟩
      case measure => simp [intOf]; omega
    · obtain rfl : i = n := by omega
      have q1 : wr.cell? ⟨g, i, none⟩ = some (.int .i64 (-71)) := (HBW.out.cell (p := ⟨g, i, none⟩) hglt).trans HQ1.out
      have q2 : wr.cell? ⟨g, i + 1, none⟩ = some (.int .i64 (-72)) := (HBW.out.cell (p := ⟨g, i + 1, none⟩) hglt).trans HQ2.out
      go_wp2_with fail
      go_ret
      exact ⟨rfl, HBW.out⟩
end Go.Proofs.Yteiggbbljgkloaa
