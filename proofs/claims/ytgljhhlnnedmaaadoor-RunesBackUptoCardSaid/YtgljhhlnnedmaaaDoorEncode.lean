/- runes.Encode -/
import Derived.Test.YtgljhhlnnedmaaaDoorEncSpec
import Derived.Deep.RegionHeldLaw
import Derived.Deep.RegionLaw
namespace Go.Proofs.YtgljhhlnnedmaaaDoor
open Go.RowKit

theorem bits_and_nat (a b : Nat) (ha : a < 9223372036854775808) (hb : b < 9223372036854775808) : bits .and .i64 (a : Int) (b : Int) = ((a &&& b : Nat) : Int) := by
  have hx : a &&& b ≤ a := Nat.and_le_left
  show IntKind.i64.wrap ((BitVec.ofInt 64 (a : Int) &&& BitVec.ofInt 64 (b : Int)).toNat : Int) = _
  rw [BitVec.toNat_and, ofInt_i64 a ha, ofInt_i64 b hb, IntKind.wrap_i64]
  omega
/-- 'r & 63' -/
theorem and63 {r : Int} (h0 : 0 ≤ r) (h1 : r ≤ 1114111) : bits .and .i64 r 63 = r % 64 := by
  obtain ⟨m, rfl⟩ := Int.eq_ofNat_of_zero_le h0
  rw [show (63 : Int) = ((63 : Nat) : Int) from rfl, bits_and_nat _ _ (by omega) (by omega)]
  have : m &&& 63 = m % 64 := Nat.and_two_pow_sub_one_eq_mod m 6
  rw [this]; omega
/-- '128 | c', '192 | c', '224 | c', '240 | c' -/
theorem orHi (k : Nat) (hk : k < 9) {a c : Int} (ha : ∃ m : Nat, a = ((2 ^ k * m : Nat) : Int) ∧ 2 ^ k * m < 1024) (c0 : 0 ≤ c) (c1 : c < ((2 ^ k : Nat) : Int)) : bits .or .i64 a c = a + c := by
  obtain ⟨m, rfl, hm⟩ := ha
  obtain ⟨j, rfl⟩ := Int.eq_ofNat_of_zero_le c0
  have hj : j < 2 ^ k := by omega
  have hk2 : 2 ^ k ≤ 2 ^ 8 := Nat.pow_le_pow_right (by omega) (by omega)
  rw [i64_or_nat _ _ (by omega) (by omega)]
  rw [← Nat.two_pow_add_eq_or_of_lt hj m]; omega
theorem or128 {c : Int} (c0 : 0 ≤ c) (c1 : c < 64) : bits .or .i64 128 c = 128 + c := orHi 6 (by omega) ⟨2, by decide, by decide⟩ c0 (by simpa using c1)
theorem or192 {c : Int} (c0 : 0 ≤ c) (c1 : c < 32) : bits .or .i64 192 c = 192 + c := orHi 5 (by omega) ⟨6, by decide, by decide⟩ c0 (by simpa using c1)
theorem or224 {c : Int} (c0 : 0 ≤ c) (c1 : c < 16) : bits .or .i64 224 c = 224 + c := orHi 4 (by omega) ⟨14, by decide, by decide⟩ c0 (by simpa using c1)
theorem or240 {c : Int} (c0 : 0 ≤ c) (c1 : c < 8) : bits .or .i64 240 c = 240 + c := orHi 3 (by omega) ⟨30, by decide, by decide⟩ c0 (by simpa using c1)

set_option maxHeartbeats 400000 in
theorem cl0_any (b : Nat) (r : Int) (w : World) (hc : w.cell? ⟨b, 0, none⟩ = some (.int .i64 r)) (h0 : 0 ≤ r) (h1 : r ≤ 1114111) :
    Calls Tryd.prog 38 #[.int .i64 0, .pointer (some ⟨b, 0, none⟩)] w fun e w' => e = .returned (.int .u8 (128 + r % 64)) ∧ w = w' := by
  have e1 := and63 h0 h1
  have e2 := or128 (c := r % 64) (by omega) (by omega)
  go_enter Tryd.func38, Tryd.ntmps38
  go_wp2
  go_ret
  exact ⟨ret_int (by simp), rfl⟩
set_option maxHeartbeats 400000 in
theorem cl1_any (b : Nat) (r : Int) (w : World) (hc : w.cell? ⟨b, 0, none⟩ = some (.int .i64 r)) (h0 : 0 ≤ r) (h1 : r ≤ 1114111) :
    Calls Tryd.prog 38 #[.int .i64 1, .pointer (some ⟨b, 0, none⟩)] w fun e w' => e = .returned (.int .u8 (128 + r / 64 % 64)) ∧ w = w' := by
  have e1 := and63 (r := r / 64) (by omega) (by omega)
  have e2 := or128 (c := r / 64 % 64) (by omega) (by omega)
  go_enter Tryd.func38, Tryd.ntmps38
  go_wp2
  go_ret
  exact ⟨ret_int (by simp), rfl⟩
set_option maxHeartbeats 400000 in
theorem cl2_any (b : Nat) (r : Int) (w : World) (hc : w.cell? ⟨b, 0, none⟩ = some (.int .i64 r)) (h0 : 0 ≤ r) (h1 : r ≤ 1114111) :
    Calls Tryd.prog 38 #[.int .i64 2, .pointer (some ⟨b, 0, none⟩)] w fun e w' => e = .returned (.int .u8 (128 + r / 4096 % 64)) ∧ w = w' := by
  have e1 := and63 (r := r / 4096) (by omega) (by omega)
  have e2 := or128 (c := r / 4096 % 64) (by omega) (by omega)
  go_enter Tryd.func38, Tryd.ntmps38
  go_wp2
  go_ret
  exact ⟨ret_int (by simp), rfl⟩

set_option maxRecDepth 100000 in
set_option maxHeartbeats 8000000 in
theorem encode_any (A : Option Addr) (n c : Nat) (l : List Int) (w : World) (hr : Reads w w.heap.size 1 A n c (l.map (Value.int .i64))) (hn : n ≤ 1048576) :
    Calls Tryd.prog 19 #[.slice A n c] w (EncodePost l w.heap.size w) := by
  unfold EncodePost
  obtain ⟨i0, hi, hz0, hz1, hz2⟩ := info_parts u8_info
  have hmf : ∀ (fn : Fn) (first cap : Array Value) (w : World), (Instr.makeFunc fn first cap).run Tryd.prog w = .ok (.func fn first cap) w := fun _ _ _ _ => rfl
  obtain ⟨B, hB⟩ : ∃ B, B = w.heap.size := ⟨_, rfl⟩
  rw [← hB] at hr
  rw [← hB]
  have hBs : B ≤ w.heap.size := by omega
  have HB := Lib.hid hB
  have hlen := hr.len
  simp only [List.length_map, Nat.mul_one] at hlen
  have HLEN := Lib.hid hlen
  have hnc := hr.le
  have hcap := hr.cap
  have HR := Lib.hid hr
  clear hB hlen hr
  go_enter Tryd.func19, Tryd.ntmps19
  go_wp2_with fail
  go_loopw [4, 13] (fun v i wr => ∃ k : Nat, k ≤ n ∧ i = .int .i64 k ∧ (∀ x ∈ l.take k, dom x = true) ∧ wr.ownsRow B 5 1 v (encL (l.take k)).length ((encL (l.take k)).map (Value.int .u8)) ∧ Below B w wr) (fun _ i _ => n - (intOf i).toNat)
  case atStart => exact ⟨0, Nat.zero_le _, rfl, fun x hx => by simp at hx, World.ownsRow_nil _ _ _ _, Below.refl _ _⟩
  case round =>
    obtain ⟨k, hk, rfl, hall, hou, hbel⟩ := hrel
    have HALL := Lib.hid hall
    clear hall
    have hszr : B ≤ wr.heap.size := by have := hbel.size; omega
    by_cases hlt : k < n
    · obtain ⟨x, hxk⟩ : ∃ x, l[k]? = some x := ⟨_, List.getElem?_eq_getElem (by have := HLEN.out; omega)⟩
      obtain ⟨b, off, rfl, hb, hcx⟩ := HR.out.at_ (by omega)
      have cx : wr.cell? ⟨b, off + k, none⟩ = some (.int .i64 x) := (hbel.cell hb).trans (hcx k _ (by simp [hxk]))
      have hst := encL_step hxk HLEN.out
      have hst2 := hst.2
      have HST := Lib.hid hst.1
      have HXK := Lib.hid hxk
      clear hst hxk hcx
      generalize hp : encL (l.take k) = p at *
      have HP := Lib.hid hp
      clear hp
      have hbox : (wr.alloc (.cells #[.int .i64 x] 3)).cell? ⟨wr.heap.size, 0, none⟩ = some (.int .i64 x) := by
        have := cells_new wr 3 #[.int .i64 x] 0 _ rfl
        rwa [add_lit] at this
      have hou1 := hou.alloc (.cells #[.int .i64 x] 3)
      have hbel1 := hbel.alloc hszr (.cells #[.int .i64 x] 3)
      cases hd : dom x with
      | false =>
        go_wp2_with (go_at_call 39; refine (domain_any _ _).mono ?_; rintro e w' ⟨rfl, rfl⟩; rw [hd])
        go_ret2
        have hxm : x ∈ l := List.mem_of_getElem? HXK.out
        exact ⟨_, _, rfl, .inr ⟨by rw [List.all_eq_false]; exact ⟨x, hxm, by simp [hd]⟩, rfl, rfl⟩, hbel1⟩
      | true =>
        have hx0 : 0 ≤ x ∧ x ≤ 1114111 := by simp only [dom, decide_eq_true_eq] at hd; omega
        obtain ⟨hx0, hx1⟩ := hx0
        have HD := Lib.hid hd
        by_cases g1 : x ≤ 127
        · have HE := Lib.hid (show encB x = [x] from by simp [encB, g1])
          go_wp2_with (first
            | (go_at_call 39; refine (domain_any _ _).mono ?_; rintro e w' ⟨rfl, rfl⟩; rw [hd])
            | (at_builtin; refine wpList_append_own_at _ rfl (.tmp 38) (.tmp 41) 25 rfl B 5 i0 (.int .u8 0) 1 1 Tryd.underlying25 hi hz0 hz1 hz2 rfl (by decide) _ p.length (p.map (Value.int .u8)) rfl (hou1.alloc _) ⟨wr.heap.size + 1, 0, none⟩ 1 1 [.int .u8 x] rfl rfl (cells_new2 _ _ _ #[.int .u8 x]) (by simp [Value.oneCell']) (by unfold maxLen; omega) (by omega) (by simp; omega) ?_; intro v2 w2 hou2 hg2 _ hat2))
          have hbel2 := (hbel1.alloc (by simp; omega) (.cells #[.int .u8 x] 5)).grown hg2 (by simp; omega) (fun q hq => (hou1.lt q hq).1)
          refine ⟨⟨k + 1, by omega, by go_num, all_step HALL.out HXK.out HD.out, ?_, hbel2⟩, by simp [intOf]; omega⟩
          rw [HST.out, HE.out]
          simpa using hou2
        by_cases g2 : x ≤ 2047
        · have HE := Lib.hid (show encB x = [192 + x / 64, 128 + x % 64] from by simp [encB, g1, g2])
          have e1 := or192 (c := x / 64) (by omega) (by omega)
          have e2 : IntKind.u8.wrap (192 + x / 64) = 192 + x / 64 := by rw [IntKind.wrap_u8]; omega
          go_wp2_with (first
            | (go_at_call 39; refine (domain_any _ _).mono ?_; rintro e w' ⟨rfl, rfl⟩; rw [hd]))
          have hGv : some wr.heap.size ≠ u4.ownBlock := fun h => by have := (hou.lt _ h.symm).2; omega
          have hGlt : wr.heap.size < (wr.alloc (.cells #[.int .i64 x] 3)).heap.size := by simp
          generalize wr.alloc (.cells #[.int .i64 x] 3) = W1 at *
          generalize wr.heap.size = G at *
          have hsz1 : B ≤ W1.heap.size := Nat.le_trans hBs hbel1.size
          have hboxD : W1.drew.cell? ⟨G, 0, none⟩ = some (.int .i64 x) := hbox
          have hboxA : (W1.alloc (.cells #[.int .u8 (192 + x / 64), .int .u8 (128 + x % 64)] 5)).drew.cell? ⟨G, 0, none⟩ = some (.int .i64 x) := (World.cell?_alloc_lt W1 _ _ hGlt).trans hbox
          go_region_held_law (fun w' => w'.cell? ⟨G, 0, none⟩ = some (.int .i64 x)) (first | exact hboxD | exact hboxA | exact hboxZ) (first
            | (refine step_append_lies _ rfl (.tmp 46) (.tmp 53) 25 rfl B 5 i0 (.int .u8 0) 1 1 Tryd.underlying25 hi hz0 hz1 hz2 rfl (by decide) _ p.length (p.map (Value.int .u8)) rfl ((hou1.alloc _).drew) ⟨W1.heap.size, 0, none⟩ 2 2 [.int .u8 (192 + x / 64), .int .u8 (128 + x % 64)] rfl rfl (cells_new W1 _ #[.int .u8 (192 + x / 64), .int .u8 (128 + x % 64)]) (by simp [Value.oneCell']) (by decide) (by unfold maxLen; omega) (by omega) (by simp; omega) _ rfl ?_; intro g cap2 w2 hou2 hg2 hat2 hlt2; have hboxZ : w2.cell? ⟨G, 0, none⟩ = some (.int .i64 x) := (hg2.cell_far ⟨G, 0, none⟩ (by simp; omega) hGv).trans hboxA)
            | (go_simp; (first | with_reducible refine (cl0_any _ x _ hboxD hx0 hx1).mono ?_); rintro e w' ⟨rfl, rfl⟩))
          all_goals go_wp2_with fail
          all_goals have hbel2 := (below_drew (hbel1.alloc hsz1 (.cells #[.int .u8 (192 + x / 64), .int .u8 (128 + x % 64)] 5))).grown hg2 (by simp; omega) (fun q hq => (hou1.lt q hq).1)
          all_goals refine ⟨⟨k + 1, by omega, by go_num, all_step HALL.out HXK.out HD.out, ?_, hbel2⟩, by simp [intOf]; omega⟩
          all_goals rw [HST.out, HE.out]
          all_goals simpa using hou2
        by_cases g3 : x ≤ 65535
        · have HE := Lib.hid (show encB x = [224 + x / 4096, 128 + x / 64 % 64, 128 + x % 64] from by simp [encB, g1, g2, g3])
          have e1 := or224 (c := x / 4096) (by omega) (by omega)
          have e2 : IntKind.u8.wrap (224 + x / 4096) = 224 + x / 4096 := by rw [IntKind.wrap_u8]; omega
          go_wp2_with (first
            | (go_at_call 39; refine (domain_any _ _).mono ?_; rintro e w' ⟨rfl, rfl⟩; rw [hd]))
          have hGv : some wr.heap.size ≠ u4.ownBlock := fun h => by have := (hou.lt _ h.symm).2; omega
          have hGlt : wr.heap.size < (wr.alloc (.cells #[.int .i64 x] 3)).heap.size := by simp
          generalize wr.alloc (.cells #[.int .i64 x] 3) = W1 at *
          generalize wr.heap.size = G at *
          have hsz1 : B ≤ W1.heap.size := Nat.le_trans hBs hbel1.size
          have hboxD : W1.drew.cell? ⟨G, 0, none⟩ = some (.int .i64 x) := hbox
          have hboxA : (W1.alloc (.cells #[.int .u8 (224 + x / 4096), .int .u8 (128 + x / 64 % 64), .int .u8 (128 + x % 64)] 5)).drew.cell? ⟨G, 0, none⟩ = some (.int .i64 x) := (World.cell?_alloc_lt W1 _ _ hGlt).trans hbox
          go_region_held_law (fun w' => w'.cell? ⟨G, 0, none⟩ = some (.int .i64 x)) (first | exact hboxD | exact hboxA | exact hboxZ) (first
            | (refine step_append_lies _ rfl (.tmp 58) (.tmp 67) 25 rfl B 5 i0 (.int .u8 0) 1 1 Tryd.underlying25 hi hz0 hz1 hz2 rfl (by decide) _ p.length (p.map (Value.int .u8)) rfl ((hou1.alloc _).drew) ⟨W1.heap.size, 0, none⟩ 3 3 [.int .u8 (224 + x / 4096), .int .u8 (128 + x / 64 % 64), .int .u8 (128 + x % 64)] rfl rfl (cells_new W1 _ #[.int .u8 (224 + x / 4096), .int .u8 (128 + x / 64 % 64), .int .u8 (128 + x % 64)]) (by simp [Value.oneCell']) (by decide) (by unfold maxLen; omega) (by omega) (by simp; omega) _ rfl ?_; intro g cap2 w2 hou2 hg2 hat2 hlt2; have hboxZ : w2.cell? ⟨G, 0, none⟩ = some (.int .i64 x) := (hg2.cell_far ⟨G, 0, none⟩ (by simp; omega) hGv).trans hboxA)
            | (go_simp; (first | with_reducible refine (cl1_any _ x _ hboxD hx0 hx1).mono ?_ | with_reducible refine (cl0_any _ x _ hboxD hx0 hx1).mono ?_); rintro e w' ⟨rfl, rfl⟩))
          all_goals go_wp2_with fail
          all_goals have hbel2 := (below_drew (hbel1.alloc hsz1 (.cells #[.int .u8 (224 + x / 4096), .int .u8 (128 + x / 64 % 64), .int .u8 (128 + x % 64)] 5))).grown hg2 (by simp; omega) (fun q hq => (hou1.lt q hq).1)
          all_goals refine ⟨⟨k + 1, by omega, by go_num, all_step HALL.out HXK.out HD.out, ?_, hbel2⟩, by simp [intOf]; omega⟩
          all_goals rw [HST.out, HE.out]
          all_goals simpa using hou2
        · have HE := Lib.hid (show encB x = [240 + x / 262144, 128 + x / 4096 % 64, 128 + x / 64 % 64, 128 + x % 64] from by simp [encB, g1, g2, g3])
          have e1 := or240 (c := x / 262144) (by omega) (by omega)
          have e2 : IntKind.u8.wrap (240 + x / 262144) = 240 + x / 262144 := by rw [IntKind.wrap_u8]; omega
          go_wp2_with (first
            | (go_at_call 39; refine (domain_any _ _).mono ?_; rintro e w' ⟨rfl, rfl⟩; rw [hd]))
          have hGv : some wr.heap.size ≠ u4.ownBlock := fun h => by have := (hou.lt _ h.symm).2; omega
          have hGlt : wr.heap.size < (wr.alloc (.cells #[.int .i64 x] 3)).heap.size := by simp
          generalize wr.alloc (.cells #[.int .i64 x] 3) = W1 at *
          generalize wr.heap.size = G at *
          have hsz1 : B ≤ W1.heap.size := Nat.le_trans hBs hbel1.size
          have hboxD : W1.drew.cell? ⟨G, 0, none⟩ = some (.int .i64 x) := hbox
          have hboxA : (W1.alloc (.cells #[.int .u8 (240 + x / 262144), .int .u8 (128 + x / 4096 % 64), .int .u8 (128 + x / 64 % 64), .int .u8 (128 + x % 64)] 5)).drew.cell? ⟨G, 0, none⟩ = some (.int .i64 x) := (World.cell?_alloc_lt W1 _ _ hGlt).trans hbox
          go_region_held_law (fun w' => w'.cell? ⟨G, 0, none⟩ = some (.int .i64 x)) (first | exact hboxD | exact hboxA | exact hboxZ) (first
            | (refine step_append_lies _ rfl (.tmp 18) (.tmp 29) 25 rfl B 5 i0 (.int .u8 0) 1 1 Tryd.underlying25 hi hz0 hz1 hz2 rfl (by decide) _ p.length (p.map (Value.int .u8)) rfl ((hou1.alloc _).drew) ⟨W1.heap.size, 0, none⟩ 4 4 [.int .u8 (240 + x / 262144), .int .u8 (128 + x / 4096 % 64), .int .u8 (128 + x / 64 % 64), .int .u8 (128 + x % 64)] rfl rfl (cells_new W1 _ #[.int .u8 (240 + x / 262144), .int .u8 (128 + x / 4096 % 64), .int .u8 (128 + x / 64 % 64), .int .u8 (128 + x % 64)]) (by simp [Value.oneCell']) (by decide) (by unfold maxLen; omega) (by omega) (by simp; omega) _ rfl ?_; intro g cap2 w2 hou2 hg2 hat2 hlt2; have hboxZ : w2.cell? ⟨G, 0, none⟩ = some (.int .i64 x) := (hg2.cell_far ⟨G, 0, none⟩ (by simp; omega) hGv).trans hboxA)
            | (go_simp; (first | with_reducible refine (cl2_any _ x _ hboxD hx0 hx1).mono ?_ | with_reducible refine (cl1_any _ x _ hboxD hx0 hx1).mono ?_ | with_reducible refine (cl0_any _ x _ hboxD hx0 hx1).mono ?_); rintro e w' ⟨rfl, rfl⟩))
          all_goals go_wp2_with fail
          all_goals have hbel2 := (below_drew (hbel1.alloc hsz1 (.cells #[.int .u8 (240 + x / 262144), .int .u8 (128 + x / 4096 % 64), .int .u8 (128 + x / 64 % 64), .int .u8 (128 + x % 64)] 5))).grown hg2 (by simp; omega) (fun q hq => (hou1.lt q hq).1)
          all_goals refine ⟨⟨k + 1, by omega, by go_num, all_step HALL.out HXK.out HD.out, ?_, hbel2⟩, by simp [intOf]; omega⟩
          all_goals rw [HST.out, HE.out]
          all_goals simpa using hou2
    · go_wp2_with fail
      go_ret2
      obtain rfl : k = n := by omega
      have e : l.take k = l := List.take_of_length_le (by have := HLEN.out; omega)
      rw [e] at hou
      exact ⟨_, _, rfl, .inl ⟨by rw [List.all_eq_true]; intro x hx; exact HALL.out x (by rw [e]; exact hx), rfl, hou⟩, hbel⟩
end Go.Proofs.YtgljhhlnnedmaaaDoor
