/- slices.Grow, Concat, Clone at ranges. -/
import Derived.Test.YtgljhhlnnedmaaaDoorProg
import Derived.Test.YtgljhhlnnedmaaaDoorMem4
import Derived.Test.YtgljhhlnnedmaaaDoorFlat
import Derived.Lib.AppendZerosOnto
import Derived.WalkSpells
import Derived.Lib.SliceRun
import Derived.Handy
namespace Go.Proofs.YtgljhhlnnedmaaaDoor
open Go.RowKit

theorem info_rng : (Tryd.prog.info? 55).map (fun i => (i.zero, i.size, i.bytes)) = some (some (.agg #[.int .i64 0, .int .i64 0]), 2, 16) := by kernel_rfl

set_option maxRecDepth 100000 in
set_option maxHeartbeats 2000000 in
/-- Grow of a nil slice. -/
theorem grow_any (n : Nat) (w : World) (hn : n ≤ 4194304) :
    Calls Tryd.prog 49 #[.slice none 0 0, .int .i64 n] w fun e w' => ∃ v, e = .returned v ∧ w'.ownsRow w.heap.size 55 2 v 0 [] ∧ Below w.heap.size w w' := by
  obtain ⟨i0, hi, hz0, hz1, hz2⟩ := info_parts info_rng
  rcases Nat.eq_zero_or_pos n with h0 | h0
  · subst h0
    go_enter Tryd.func49, Tryd.ntmps49
    go_wp2_with fail
    go_ret
    exact ⟨_, rfl, World.ownsRow_nil _ _ _ _, Below.refl _ _⟩
  have hrz : ∀ ty, (Builtin.append_ #[42, 3] ty #[.slice none 0 0, .int .i64 (n : Int)]).run Tryd.prog w =
      .ok (.slice (some ⟨w.heap.size, 0, none⟩) n (grownCap w n 0 55)) (w.drew.alloc (.cells (([] : List Value).toArray ++ Builtin.zeroCells (Value.agg #[.int .i64 0, .int .i64 0]).cells n ++ Builtin.zeroCells (Value.agg #[.int .i64 0, .int .i64 0]).cells (grownCap w n 0 55 - n)) 55)) := fun ty => by
    have h := Lib.run_append_grow_zeros (P := Tryd.prog) w 42 3 ty 55 i0 (.agg #[.int .i64 0, .int .i64 0]) .i64 .i64 Tryd.underlying42 Tryd.underlying3 hi hz0 none 0 0 [] (run_firstCells_none w.drew i0.size 0 0 0) n (by omega) (by rw [hz1]; decide) (by omega) (by omega)
      (by rw [hz2]; omega)
      (by rw [Nat.zero_add]; exact growslice_fits (by omega) (by rw [hz2]; omega))
    simp only [Nat.zero_add] at h
    exact h
  have hGn : n ≤ grownCap w n 0 55 := grownCap_ge w _ _ _
  have hG63 : grownCap w n 0 55 ≤ maxLen := grownCap_le_maxLen w n 0 55 (by unfold maxLen; omega)
  generalize grownCap w n 0 55 = G at *
  have hzl : (([] : List Value).toArray ++ Builtin.zeroCells (Value.agg #[.int .i64 0, .int .i64 0]).cells n ++ Builtin.zeroCells (Value.agg #[.int .i64 0, .int .i64 0]).cells (G - n)).size = G * 2 := by
    simp [Builtin.zeroCells, Value.cells]; omega
  generalize ([] : List Value).toArray ++ Builtin.zeroCells (Value.agg #[.int .i64 0, .int .i64 0]).cells n ++ Builtin.zeroCells (Value.agg #[.int .i64 0, .int .i64 0]).cells (G - n) = Z at *
  have HZ := Lib.hid hzl
  clear hzl
  have hG0 : 0 < G := by omega
  have hG : G ≤ 9223372036854775807 := by unfold maxLen at hG63; omega
  have HM := Lib.hid hG63
  have HZR := Lib.hid hrz
  clear hG63 hrz
  go_enter Tryd.func49, Tryd.ntmps49
  go_wp2_with (at_builtin; refine wpList_append_run rfl (.tmp 20) (.tmp 21) 42 3 rfl (.slice none 0 0) (.int .i64 (n : Int)) _ _ rfl rfl (HZR.out _) ?_)
  go_ret
  refine ⟨_, rfl, ?_, ((Below.refl _ _).drew).alloc (Nat.le_refl _) _⟩
  exact ⟨rfl, .inr ⟨w.heap.size, G, Z, rfl, Nat.le_refl _, heap_alloc_new w.drew _, Nat.zero_le _, HM.out, HZ.out, by simp⟩⟩

set_option maxRecDepth 100000 in
set_option maxHeartbeats 2000000 in
/-- Clone. -/
theorem clone_any (A : Option Addr) (n c : Nat) (l : List (Int × Int)) (w : World) (hA : A = none → c = 0) (hr : Reads w w.heap.size 2 A n c (flat l)) (hn : n ≤ 4194304) :
    Calls Tryd.prog 42 #[.slice A n c] w fun e w' => ∃ v, e = .returned v ∧ w'.ownsRow w.heap.size 55 2 v l.length (flat l) ∧ Below w.heap.size w w' := by
  obtain ⟨i0, hi, hz0, hz1, hz2⟩ := info_parts info_rng
  have hlen : l.length = n := by have := hr.len; rw [flat_length] at this; omega
  have HLEN := Lib.hid hlen
  clear hlen
  have hnc := hr.le
  have hcap := hr.cap
  have heq := Lib.run_eql_slice_nil (P := Tryd.prog) w 42 55 A n c 0 0 Tryd.underlying42
  cases A with
  | none =>
    obtain rfl : c = 0 := hA rfl
    obtain rfl : n = 0 := by omega
    obtain rfl : l = [] := List.eq_nil_of_length_eq_zero HLEN.out
    have HR := Lib.hid hr
    clear hr hA
    go_enter Tryd.func42, Tryd.ntmps42
    go_wp2_with fail
    go_ret
    exact ⟨_, rfl, World.ownsRow_nil _ _ _ _, Below.refl _ _⟩
  | some ad =>
    have hr1 : Reads (w.alloc (.cells #[] 55)) w.heap.size 2 (some ad) n c (flat l) := hr.alloc (Nat.le_refl _) _
    have ho : (w.alloc (.cells #[] 55)).ownsRow w.heap.size 55 2 (.slice (some ⟨w.heap.size, 0, none⟩) 0 0) 0 [] := own_lit w w.heap.size 55 2 0 #[] [] (Nat.le_refl _) rfl rfl (by decide)
    have hb : Below w.heap.size w (w.alloc (.cells #[] 55)) := (Below.refl _ _).alloc (Nat.le_refl _) _
    have HR := Lib.hid hr1
    have HO := Lib.hid ho
    clear hr hr1 ho hA
    go_enter Tryd.func42, Tryd.ntmps42
    go_wp2_with (at_builtin; refine wpList_append_reads rfl (.tmp 5) (.tmp 6) 42 rfl w.heap.size 55 i0 (.agg #[.int .i64 0, .int .i64 0]) 2 16 Tryd.underlying42 hi hz0 hz1 hz2 rfl (by decide) _ 0 [] rfl HO.out (some ad) w.heap.size n c (flat l) rfl (fun h => by cases h) HR.out (flat_one l) (by unfold maxLen; omega) (by omega) (by simp) ?_; intro v1 w1 ha1)
    go_ret
    have hbe := hb.grown ha1.grown (by simp) (fun k hk => (HO.out.lt k hk).1)
    have := ha1.own
    rw [Nat.zero_add, List.nil_append, ← HLEN.out] at this
    exact ⟨_, rfl, this, hbe⟩

set_option maxRecDepth 100000 in
set_option maxHeartbeats 4000000 in
/-- Concat of two. -/
theorem concat_any (A A' : Option Addr) (n c n' c' R : Nat) (l l' : List (Int × Int)) (w : World) (hA : A = none → c = 0) (hA' : A' = none → c' = 0) (hr : Reads w w.heap.size 2 A n c (flat l)) (hr' : Reads w w.heap.size 2 A' n' c' (flat l'))
    (h0 : w.cell? ⟨R, 0, none⟩ = some (.slice A n c)) (h1 : w.cell? ⟨R, 1, none⟩ = some (.slice A' n' c')) (hn : n + n' ≤ 2097152) :
    Calls Tryd.prog 41 #[.slice (some ⟨R, 0, none⟩) 2 2] w fun e w' => ∃ v, e = .returned v ∧ w'.ownsRow w.heap.size 55 2 v (l ++ l').length (flat (l ++ l')) ∧ Below w.heap.size w w' := by
  obtain ⟨i0, hi, hz0, hz1, hz2⟩ := info_parts info_rng
  have hRl := World.block_lt_of_cell? w _ h0
  simp only [] at hRl
  obtain ⟨B, hB⟩ : ∃ B, B = w.heap.size := ⟨_, rfl⟩
  rw [← hB] at hr hr' hRl
  have HG := Lib.hid (fun W (hw : B ≤ W.heap.size) => (grow_any (n + n') W (by omega)))
  rw [← hB]
  have hBs : B ≤ w.heap.size := by omega
  have hlen : l.length = n := by have := hr.len; rw [flat_length] at this; omega
  have hlen' : l'.length = n' := by have := hr'.len; rw [flat_length] at this; omega
  have HLEN := Lib.hid hlen
  have HLEN' := Lib.hid hlen'
  have HR := Lib.hid hr
  have HR' := Lib.hid hr'
  have HA := Lib.hid hA
  have HA' := Lib.hid hA'
  have hnc := hr.le
  have hcap := hr.cap
  have hnc' := hr'.le
  have hcap' := hr'.cap
  clear hB hlen hlen' hr hr' hA hA'
  go_enter Tryd.func41, Tryd.ntmps41
  go_wp2_with fail
  go_loop [3, 11] (fun s p => ∃ i : Nat, i ≤ 2 ∧ p = .int .i64 i ∧ s = .int .i64 (if i = 0 then 0 else if i = 1 then (n : Int) else (n : Int) + n')) (fun _ p => 2 - (intOf p).toNat)
  case atStart => exact ⟨0, by omega, rfl, rfl⟩
  case round =>
    obtain ⟨i, hi2, rfl, rfl⟩ := hrel
    rcases (show i = 0 ∨ i = 1 ∨ i = 2 from by omega) with rfl | rfl | rfl
    · simp only [if_true]
      go_wp2_with fail
      go_round
      case rel => exact ⟨1, by omega, by go_num, by simp⟩
      case measure => simp [intOf]
    · simp only [if_true, show ¬ (1 : Nat) = 0 from by decide, if_false]
      go_wp2_with fail
      go_round
      case rel => exact ⟨2, by omega, by go_num, by simp⟩
      case measure => simp [intOf]
    · simp only [show ¬ (2 : Nat) = 0 from by decide, show ¬ (2 : Nat) = 1 from by decide, if_false]
      clear hi2
      go_wp2_with fail
      refine (show Calls Tryd.prog 49 #[.slice none 0 0, .int .i64 ((n : Int) + n')] w _ from by
        have := HG.out w hBs
        rw [Int.natCast_add] at this
        exact this).mono ?_
      rintro e w1 ⟨v, rfl, ho, hb⟩
      have ho := own_lower ho hBs
      have hb := hb.mono hBs
      go_wp2_with fail
      go_loopw [6, 27] (fun s p wr => ∃ i : Nat, i ≤ 2 ∧ p = .int .i64 i ∧ Below B w wr ∧ wr.ownsRow B 55 2 s (if i = 0 then [] else if i = 1 then l else l ++ l').length (flat (if i = 0 then [] else if i = 1 then l else l ++ l'))) (fun _ p _ => 2 - (intOf p).toNat)
      case atStart => exact ⟨0, by omega, rfl, hb, ho⟩
      case round =>
        obtain ⟨i, hi2, rfl, hbel, hou⟩ := hrel
        have hszr : B ≤ wr.heap.size := Nat.le_trans hBs hbel.size
        have hc0 : wr.cell? ⟨R, 0, none⟩ = some (.slice A n c) := (hbel.cell (p := ⟨R, 0, none⟩) hRl).trans h0
        have hc1 : wr.cell? ⟨R, 1, none⟩ = some (.slice A' n' c') := (hbel.cell (p := ⟨R, 1, none⟩) hRl).trans h1
        rcases (show i = 0 ∨ i = 1 ∨ i = 2 from by omega) with rfl | rfl | rfl
        · simp only [if_true, List.length_nil] at hou
          go_wp2_with (at_builtin; refine wpList_append_reads rfl (.tmp 31) (.tmp 32) 42 rfl B 55 i0 (.agg #[.int .i64 0, .int .i64 0]) 2 16 Tryd.underlying42 hi hz0 hz1 hz2 rfl (by decide) _ 0 (flat []) rfl hou A B n c (flat l) rfl HA.out (HR.out.below hbel) (flat_one l) (by unfold maxLen; omega) (by omega) hszr ?_; intro v1 w1 ha1)
          have hbe := hbel.grown ha1.grown hszr (fun k hk => (hou.lt k hk).1)
          have hown := ha1.own
          rw [Nat.zero_add, ← HLEN.out] at hown
          go_roundw
          case rel => exact ⟨1, by omega, by go_num, hbe, by simpa [flat] using hown⟩
          case measure => simp [intOf]
        · simp only [if_true, show ¬ (1 : Nat) = 0 from by decide, if_false] at hou
          have hll : l.length = n := HLEN.out
          have hlb : l.length + n' ≤ 2097152 := by omega
          clear hll
          go_wp2_with (at_builtin; refine wpList_append_reads rfl (.tmp 31) (.tmp 32) 42 rfl B 55 i0 (.agg #[.int .i64 0, .int .i64 0]) 2 16 Tryd.underlying42 hi hz0 hz1 hz2 rfl (by decide) _ l.length (flat l) rfl hou A' B n' c' (flat l') rfl HA'.out (HR'.out.below hbel) (flat_one l') (by unfold maxLen; omega) (by omega) hszr ?_; intro v1 w1 ha1)
          have hbe := hbel.grown ha1.grown hszr (fun k hk => (hou.lt k hk).1)
          have hown := ha1.own
          rw [← HLEN'.out, ← List.length_append, ← flat_append] at hown
          go_roundw
          case rel => exact ⟨2, by omega, by go_num, hbe, by simpa using hown⟩
          case measure => simp [intOf]
        · simp only [show ¬ (2 : Nat) = 0 from by decide, show ¬ (2 : Nat) = 1 from by decide, if_false] at hou
          go_wp2_with fail
          go_ret
          exact ⟨_, rfl, hou, hbel⟩
end Go.Proofs.YtgljhhlnnedmaaaDoor
