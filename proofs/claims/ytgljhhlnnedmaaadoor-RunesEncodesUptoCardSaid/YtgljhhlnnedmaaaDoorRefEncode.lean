/- heronref01.Encode -/
import Derived.Test.YtgljhhlnnedmaaaDoorEncSpec
namespace Go.Proofs.YtgljhhlnnedmaaaDoor
open Go.RowKit

set_option maxRecDepth 100000 in
set_option maxHeartbeats 2000000 in
theorem refEncode_any (A : Option Addr) (n c : Nat) (l : List Int) (w : World) (hr : Reads w w.heap.size 1 A n c (l.map (Value.int .i64))) (hn : n ≤ 1048576) :
    Calls Tryd.prog 21 #[.slice A n c] w (EncodePost l w.heap.size w) := by
  unfold EncodePost
  obtain ⟨i0, hi, hz0, hz1, hz2⟩ := info_parts u8_info
  obtain ⟨B, hB⟩ : ∃ B, B = w.heap.size := ⟨_, rfl⟩
  rw [← hB] at hr
  rw [← hB]
  have hBs : B ≤ w.heap.size := by omega
  have HB := Lib.hid hB
  have hlen := hr.len
  simp only [List.length_map, Nat.mul_one] at hlen
  have HLEN := Lib.hid hlen
  have hnc := hr.le
  have hcap := hr.cap
  have HR := Lib.hid hr
  clear hB hlen hr
  go_enter Tryd.func21, Tryd.ntmps21
  go_wp2_with fail
  go_loopw [4, 5] (fun v i wr => ∃ k : Nat, k ≤ n ∧ i = .int .i64 k ∧ (∀ x ∈ l.take k, dom x = true) ∧ wr.ownsRow B 5 1 v (encL (l.take k)).length ((encL (l.take k)).map (Value.int .u8)) ∧ Below B w wr) (fun _ i _ => n - (intOf i).toNat)
  case atStart => exact ⟨0, Nat.zero_le _, rfl, fun x hx => by simp at hx, World.ownsRow_nil _ _ _ _, Below.refl _ _⟩
  case round =>
    obtain ⟨k, hk, rfl, hall, hou, hbel⟩ := hrel
    have HALL := Lib.hid hall
    clear hall
    have hszr : B ≤ wr.heap.size := by have := hbel.size; omega
    by_cases hlt : k < n
    · obtain ⟨x, hxk⟩ : ∃ x, l[k]? = some x := ⟨_, List.getElem?_eq_getElem (by have := HLEN.out; omega)⟩
      obtain ⟨b, off, rfl, hb, hcx⟩ := HR.out.at_ (by omega)
      have cx : wr.cell? ⟨b, off + k, none⟩ = some (.int .i64 x) := (hbel.cell hb).trans (hcx k _ (by simp [hxk]))
      have hst := encL_step hxk HLEN.out
      have hst2 := hst.2
      have HST := Lib.hid hst.1
      have HXK := Lib.hid hxk
      clear hst hxk hcx
      generalize hp : encL (l.take k) = p at *
      have HP := Lib.hid hp
      clear hp
      cases hd : dom x with
      | false =>
        go_wp2_with (go_at_call 36; refine (refDomain_any _ _).mono ?_; rintro e w' ⟨rfl, rfl⟩; rw [hd])
        go_ret2
        have hxm : x ∈ l := List.mem_of_getElem? HXK.out
        exact ⟨_, _, rfl, .inr ⟨by rw [List.all_eq_false]; exact ⟨x, hxm, by simp [hd]⟩, rfl, rfl⟩, hbel⟩
      | true =>
        have hx0 : 0 ≤ x ∧ x ≤ 1114111 := by simp only [dom, decide_eq_true_eq] at hd; omega
        obtain ⟨hx0, hx1⟩ := hx0
        have HD := Lib.hid hd
        have hel := encB_len x
        generalize hE : encB x = E at *
        have hel1 := hel.1
        have hel2 := hel.2
        have HEL := Lib.hid hel
        clear hel
        have HBY := Lib.hid (fun w => by have := bytes_any x w hx0 hx1; rw [hE] at this; exact this)
        have HE := Lib.hid hE
        clear hE
        have hou1 := hou.alloc (.cells (E.map (Value.int .u8)).toArray 5)
        have hbel1 := hbel.alloc hszr (.cells (E.map (Value.int .u8)).toArray 5)
        go_wp2_with (first
          | (go_at_call 36; refine (refDomain_any _ _).mono ?_; rintro e w' ⟨rfl, rfl⟩; rw [hd])
          | (go_at_call 37; refine (HBY.out _).mono ?_; rintro e w' ⟨rfl, rfl⟩)
          | (at_builtin; refine wpList_append_own_at _ rfl (.tmp 23) (.tmp 28) 25 rfl B 5 i0 (.int .u8 0) 1 1 Tryd.underlying25 hi hz0 hz1 hz2 rfl (by decide) _ p.length (p.map (Value.int .u8)) rfl hou1 ⟨wr.heap.size, 0, none⟩ E.length E.length (E.map (Value.int .u8)) rfl (by simp) (cells_new wr _ (E.map (Value.int .u8)).toArray) (ints_oneCell _ _) (by unfold maxLen; omega) (by omega) (by simp; omega) ?_; intro v2 w2 hou2 hg2 _ hat2)
          | fail)
        have hbel2 := hbel1.grown hg2 (by simp; omega) (fun q hq => (hou.lt q hq).1)
        refine ⟨⟨k + 1, by omega, by go_num, all_step HALL.out HXK.out HD.out, ?_, hbel2⟩, by simp [intOf]; omega⟩
        rw [HST.out]
        simpa using hou2
    · go_wp2_with fail
      go_ret2
      obtain rfl : k = n := by omega
      have e : l.take k = l := List.take_of_length_le (by have := HLEN.out; omega)
      rw [e] at hou
      exact ⟨_, _, rfl, .inl ⟨by rw [List.all_eq_true]; intro x hx; exact HALL.out x (by rw [e]; exact hx), rfl, hou⟩, hbel⟩
end Go.Proofs.YtgljhhlnnedmaaaDoor
