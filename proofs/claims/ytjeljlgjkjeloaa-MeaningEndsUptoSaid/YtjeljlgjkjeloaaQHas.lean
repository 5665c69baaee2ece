/- runes.Has, with slices.ContainsFunc and IndexFunc at ranges. -/
import Derived.Test.YtjeljlgjkjeloaaQMemB
namespace Go.Proofs.Ytjeljlgjkjeloaa
open Go.RowKit


set_option maxHeartbeats 1000000 in
theorem hasC_any (x1 x2 r : Int) (bx : Nat) (w : World) (hc : w.cell? ⟨bx, 0, none⟩ = some (.int .i64 r)) :
    Calls Try.prog 64 #[.agg #[.int .i64 x1, .int .i64 x2], .pointer (some ⟨bx, 0, none⟩)] w fun e w' => e = .returned (.bool (decide (x1 ≤ r ∧ r ≤ x2))) ∧ Below w.heap.size w w' := by
  have hlt := World.block_lt_of_cell? w _ hc
  have hbe : Below w.heap.size w (w.alloc (.cells #[.int .i64 x1, .int .i64 x2] 67)) := (Below.refl _ _).alloc (Nat.le_refl _) _
  by_cases h1 : x1 ≤ r <;> by_cases h2 : r ≤ x2
  all_goals
    go_enter Try.func64, Try.ntmps64
    go_wp2_with fail
    go_ret
    exact ⟨ret_bool (by simp [h1, h2]), hbe⟩

set_option maxRecDepth 100000 in
set_option maxHeartbeats 2000000 in
theorem index_any (A : Option Addr) (n c bx : Nat) (r : Int) (l : List (Int × Int)) (w : World) (hr : Reads w w.heap.size 2 A n c (flat l)) (hbx : w.cell? ⟨bx, 0, none⟩ = some (.int .i64 r)) :
    Calls Try.prog 75 #[.slice A n c, .func (.func 64) #[] #[.pointer (some ⟨bx, 0, none⟩)]] w fun e w' => (∃ k : Int, e = .returned (.int .i64 k) ∧ decide (0 ≤ k) = memB l r) ∧ Below w.heap.size w w' := by
  obtain ⟨B, hB⟩ : ∃ B, B = w.heap.size := ⟨_, rfl⟩
  have hbl := World.block_lt_of_cell? w _ hbx
  simp only [] at hbl
  rw [← hB] at hr hbl
  rw [← hB]
  have hBs : B ≤ w.heap.size := by omega
  have hlen : l.length = n := by have := hr.len; rw [flat_length] at this; omega
  have HLEN := Lib.hid hlen
  have hnc := hr.le
  have hcap := hr.cap
  have HR := Lib.hid hr
  have HBX := Lib.hid hbx
  clear hB hlen hr hbx
  go_enter Try.func75, Try.ntmps75
  go_wp2_with fail
  go_loopw [8] (fun p wr => ∃ i : Nat, i ≤ n ∧ p = .int .i64 i ∧ (∀ x ∈ l.take i, decide (x.1 ≤ r ∧ r ≤ x.2) = false) ∧ Below B w wr) (fun p _ => n - (intOf p).toNat)
  case atStart => exact ⟨0, Nat.zero_le _, rfl, by simp, Below.refl _ _⟩
  case round =>
    obtain ⟨i, hi1, rfl, hno, hbel⟩ := hrel
    have hszr : B ≤ wr.heap.size := by have := hbel.size; omega
    have HNO := Lib.hid hno
    clear hno
    by_cases hlt : i < n
    · obtain ⟨x, hx⟩ : ∃ x, l[i]? = some x := ⟨_, List.getElem?_eq_getElem (by have := HLEN.out; omega)⟩
      obtain ⟨b, off, rfl, hb, hcell⟩ := (HR.out.below hbel).at_ (by omega)
      have hc1 : wr.cell? ⟨b, off + i * 2, none⟩ = some (.int .i64 x.1) := hcell _ _ (flat_get l i x hx).1
      have hc2 : wr.cell? ⟨b, off + i * 2 + 1, none⟩ = some (.int .i64 x.2) := by rw [Nat.add_assoc]; exact hcell _ _ (flat_get l i x hx).2
      have hcb : wr.cell? ⟨bx, 0, none⟩ = some (.int .i64 r) := (hbel.cell (p := ⟨bx, 0, none⟩) hbl).trans HBX.out
      have HX := Lib.hid hx
      have HC := Lib.hid (hasC_any x.1 x.2 r bx wr hcb)
      obtain ⟨x1, x2⟩ := x
      clear hcell hx hcb
      cases hd : decide (x1 ≤ r ∧ r ≤ x2) with
      | true =>
        have HM := Lib.hid (show memB l r = true from List.any_eq_true.2 ⟨(x1, x2), List.mem_of_getElem? HX.out, hd⟩)
        go_wp2_with (go_at_call 64; refine HC.out.mono ?_; rintro e w1 ⟨rfl, hb1⟩; simp only [hd])
        go_ret
        exact ⟨⟨_, rfl, by rw [HM.out]; simp⟩, hbel.trans (hb1.mono hszr)⟩
      | false =>
        go_wp2_with (go_at_call 64; refine HC.out.mono ?_; rintro e w1 ⟨rfl, hb1⟩; simp only [hd])
        go_roundw
        case rel => exact ⟨i + 1, by omega, by go_num, fun y hy => by
          rw [List.take_add_one, HX.out] at hy
          simp only [Option.toList_some, List.mem_append, List.mem_singleton] at hy
          rcases hy with hy | rfl
          · exact HNO.out y hy
          · exact hd, hbel.trans (hb1.mono hszr)⟩
        case measure => simp [intOf]; omega
    · obtain rfl : i = n := by omega
      have HM := Lib.hid (show memB l r = false from by
        have := HNO.out
        rw [List.take_of_length_le (by have := HLEN.out; omega)] at this
        unfold memB
        rw [List.any_eq_false]
        intro x hx
        rw [this x hx]; simp)
      go_wp2_with fail
      go_ret
      exact ⟨⟨_, rfl, by rw [HM.out]; rfl⟩, hbel⟩

set_option maxHeartbeats 1000000 in
theorem contains_any (A : Option Addr) (n c bx : Nat) (r : Int) (l : List (Int × Int)) (w : World) (hr : Reads w w.heap.size 2 A n c (flat l)) (hbx : w.cell? ⟨bx, 0, none⟩ = some (.int .i64 r)) :
    Calls Try.prog 63 #[.slice A n c, .func (.func 64) #[] #[.pointer (some ⟨bx, 0, none⟩)]] w fun e w' => e = .returned (.bool (memB l r)) ∧ Below w.heap.size w w' := by
  have HI := Lib.hid (index_any A n c bx r l w hr hbx)
  clear hr hbx
  go_enter Try.func63, Try.ntmps63
  go_wp2_with fail
  refine HI.out.mono ?_
  rintro e w1 ⟨⟨k, rfl, hk⟩, hb⟩
  have HK := Lib.hid hk
  clear hk HI
  go_wp2_with fail
  go_ret
  exact ⟨ret_bool HK.out, hb⟩

set_option maxHeartbeats 1000000 in
theorem has_any (A : Option Addr) (n c : Nat) (r : Int) (l : List (Int × Int)) (w : World) (hr : Reads w w.heap.size 2 A n c (flat l)) :
    Calls Try.prog 43 #[.slice A n c, .int .i64 r] w fun e w' => e = .returned (.bool (rightB l && memB l r)) ∧ Below w.heap.size w w' := by
  have hb0 : Below w.heap.size w (w.alloc (.cells #[.int .i64 r] 3)) := (Below.refl _ _).alloc (Nat.le_refl _) _
  have hr1 : Reads (w.alloc (.cells #[.int .i64 r] 3)) (w.alloc (.cells #[.int .i64 r] 3)).heap.size 2 A n c (flat l) := (hr.alloc (Nat.le_refl _) _).more (by simp)
  have hc : (w.alloc (.cells #[.int .i64 r] 3)).cell? ⟨w.heap.size, 0, none⟩ = some (.int .i64 r) := (Blk.new w _ [.int .i64 r]).cell 0
  have HR := Lib.hid hr1
  have HC := Lib.hid hc
  have HRI := Lib.hid (right_any A n c l _ hr1)
  have hmf : ∀ (fn : Fn) (first cap : Array Value) (w : World), (Instr.makeFunc fn first cap).run Try.prog w = .ok (.func fn first cap) w := fun _ _ _ _ => rfl
  clear hr hr1 hc
  go_enter Try.func43, Try.ntmps43
  go_wp2_with fail
  refine HRI.out.mono ?_
  rintro e w1 ⟨rfl, hb1⟩
  have hs1 := hb1.size
  have hlt : w.heap.size < (w.alloc (.cells #[.int .i64 r] 3)).heap.size := by simp
  have HCO := Lib.hid (contains_any A n c w.heap.size r l w1 ((HR.out.below hb1).more hs1) ((hb1.cell (p := ⟨w.heap.size, 0, none⟩) hlt).trans HC.out))
  have hb2 : Below w.heap.size w w1 := hb0.trans (hb1.mono (by simp))
  clear HRI HR HC hb1 hb0 hs1 hlt
  have hs2 := hb2.size
  cases hd : rightB l with
  | false =>
    simp only []
    go_wp2_with fail
    go_ret
    exact ⟨ret_bool (by rw [hd]; rfl), hb2⟩
  | true =>
    simp only []
    go_wp2_with fail
    refine HCO.out.mono ?_
    rintro e w2 ⟨rfl, hb3⟩
    go_wp2_with fail
    go_ret
    exact ⟨ret_bool (by rw [hd]; rfl), hb2.trans (hb3.mono hs2)⟩
end Go.Proofs.Ytjeljlgjkjeloaa
