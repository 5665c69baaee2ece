/- slices.Clone at ranges and at nodes. -/
import Derived.Test.YtfgelkfnbohmmaaProg
import Derived.Lib.AppendZerosOnto
import Derived.WalkSpells
import Derived.Lib.SliceRun
import Derived.Lib.Hide
import Derived.Handy
import Derived.Test.YtfgelkfnbohmmaaP00
import Derived.Test.YtfgelkfnbohmmaaP03
import Derived.Test.YtfgelkfnbohmmaaP07
namespace Go.Proofs.Ytfgelkfnbohmmaa
open Go.RowKit
theorem info_clone_rng : (Try.prog.info? 52).map (fun i => (i.zero, i.size, i.bytes)) = some (some (.agg #[.int .i64 0, .int .i64 0]), 2, 16) := by kernel_rfl
theorem info_clone_nodes : (Try.prog.info? 25).map (fun i => (i.zero, i.size, i.bytes)) = some (some (.agg #[.int .i64 0, .slice none 0 0, .int .i64 0, .slice none 0 0, .int .i64 0, .int .i64 0, .bool false, .int .i64 0, .string ⟨#[]⟩]), 9, 112) := by kernel_rfl
set_option maxRecDepth 100000 in
set_option maxHeartbeats 2000000 in
theorem clone_rng (A : Option Addr) (n c : Nat) (l : List (Int × Int)) (w : World) (hA : A = none → c = 0) (hr : Reads w w.heap.size 2 A n c (flat l)) (hn : n ≤ 4194304) :
    Calls Try.prog 87 #[.slice A n c] w fun e w' => ∃ v, e = .returned v ∧ w'.ownsRow w.heap.size 52 2 v l.length (flat l) ∧ Below w.heap.size w w' := by
  obtain ⟨i0, hi, hz0, hz1, hz2⟩ := info_parts info_clone_rng
  have hlen : l.length = n := by have := hr.len; rw [flat_length] at this; omega
  have HLEN := Lib.hid hlen
  clear hlen
  have hnc := hr.le
  have hcap := hr.cap
  have heq := Lib.run_eql_slice_nil (P := Try.prog) w 22 52 A n c 0 0 Try.underlying22
  cases A with
  | none =>
    obtain rfl : c = 0 := hA rfl
    obtain rfl : n = 0 := by omega
    obtain rfl : l = [] := List.eq_nil_of_length_eq_zero HLEN.out
    have HR := Lib.hid hr
    clear hr hA
    go_enter Try.func87, Try.ntmps87
    go_wp2_with fail
    go_ret
    exact ⟨_, rfl, World.ownsRow_nil _ _ _ _, Below.refl _ _⟩
  | some ad =>
    have hr1 : Reads (w.alloc (.cells #[] 52)) w.heap.size 2 (some ad) n c (flat l) := hr.alloc (Nat.le_refl _) _
    have ho : (w.alloc (.cells #[] 52)).ownsRow w.heap.size 52 2 (.slice (some ⟨w.heap.size, 0, none⟩) 0 0) 0 [] := own_lit w w.heap.size 52 2 0 #[] [] (Nat.le_refl _) rfl rfl (by decide)
    have hb : Below w.heap.size w (w.alloc (.cells #[] 52)) := (Below.refl _ _).alloc (Nat.le_refl _) _
    have HR := Lib.hid hr1
    have HO := Lib.hid ho
    clear hr hr1 ho hA
    go_enter Try.func87, Try.ntmps87
    go_wp2_with (at_builtin; refine wpList_append_reads rfl (.tmp 5) (.tmp 6) 22 rfl w.heap.size 52 i0 (.agg #[.int .i64 0, .int .i64 0]) 2 16 Try.underlying22 hi hz0 hz1 hz2 rfl (by decide) _ 0 [] rfl HO.out (some ad) w.heap.size n c (flat l) rfl (fun h => by cases h) HR.out (flat_one l) (by unfold maxLen; omega) (by omega) (by simp) ?_; intro v1 w1 ha1)
    go_ret
    have hbe := hb.grown ha1.grown (by simp) (fun k hk => (HO.out.lt k hk).1)
    have := ha1.own
    rw [Nat.zero_add, List.nil_append, ← HLEN.out] at this
    exact ⟨_, rfl, this, hbe⟩
set_option maxRecDepth 100000 in
set_option maxHeartbeats 2000000 in
theorem clone_nodes (A : Option Addr) (n c : Nat) (l : List Ta) (w : World) (hA : A = none → c = 0) (hr : Reads w w.heap.size 9 A n c (rowT l)) (hn : n ≤ 4194304) :
    Calls Try.prog 88 #[.slice A n c] w fun e w' => ∃ v, e = .returned v ∧ w'.ownsRow w.heap.size 25 9 v l.length (rowT l) ∧ Below w.heap.size w w' := by
  obtain ⟨i0, hi, hz0, hz1, hz2⟩ := info_parts info_clone_nodes
  have hlen : l.length = n := by have := hr.len; rw [rowT_length] at this; omega
  have HLEN := Lib.hid hlen
  clear hlen
  have hnc := hr.le
  have hcap := hr.cap
  have heq := Lib.run_eql_slice_nil (P := Try.prog) w 23 25 A n c 0 0 Try.underlying23
  cases A with
  | none =>
    obtain rfl : c = 0 := hA rfl
    obtain rfl : n = 0 := by omega
    obtain rfl : l = [] := List.eq_nil_of_length_eq_zero HLEN.out
    have HR := Lib.hid hr
    clear hr hA
    go_enter Try.func88, Try.ntmps88
    go_wp2_with fail
    go_ret
    exact ⟨_, rfl, World.ownsRow_nil _ _ _ _, Below.refl _ _⟩
  | some ad =>
    have hr1 : Reads (w.alloc (.cells #[] 25)) w.heap.size 9 (some ad) n c (rowT l) := hr.alloc (Nat.le_refl _) _
    have ho : (w.alloc (.cells #[] 25)).ownsRow w.heap.size 25 9 (.slice (some ⟨w.heap.size, 0, none⟩) 0 0) 0 [] := own_lit w w.heap.size 25 9 0 #[] [] (Nat.le_refl _) rfl rfl (by decide)
    have hb : Below w.heap.size w (w.alloc (.cells #[] 25)) := (Below.refl _ _).alloc (Nat.le_refl _) _
    have HR := Lib.hid hr1
    have HO := Lib.hid ho
    clear hr hr1 ho hA
    go_enter Try.func88, Try.ntmps88
    go_wp2_with (at_builtin; refine wpList_append_reads rfl (.tmp 5) (.tmp 6) 23 rfl w.heap.size 25 i0 (.agg #[.int .i64 0, .slice none 0 0, .int .i64 0, .slice none 0 0, .int .i64 0, .int .i64 0, .bool false, .int .i64 0, .string ⟨#[]⟩]) 9 112 Try.underlying23 hi hz0 hz1 hz2 rfl (by decide) _ 0 [] rfl HO.out (some ad) w.heap.size n c (rowT l) rfl (fun h => by cases h) HR.out (rowT_one l) (by unfold maxLen; omega) (by omega) (by simp) ?_; intro v1 w1 ha1)
    go_ret
    have hbe := hb.grown ha1.grown (by simp) (fun k hk => (HO.out.lt k hk).1)
    have := ha1.own
    rw [Nat.zero_add, List.nil_append, ← HLEN.out] at this
    exact ⟨_, rfl, this, hbe⟩
end Go.Proofs.Ytfgelkfnbohmmaa
