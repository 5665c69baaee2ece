/- back: are bytes as they were, with what stands behind? Then their owner writes over them. -/
import Derived.Test.YtgljhhlnnedmaaaDoorLent
namespace Go.Proofs.YtgljhhlnnedmaaaDoor
open Go.RowKit

def x33 (b : Int) : Int := bits .xor .u8 b 33
/-- The first k of them written over. -/
def overK (L : List Int) (k : Nat) : List Value := ((L.take k).map x33 ++ L.drop k).map (Value.int .u8)
theorem overK_at {L : List Int} {k : Nat} {x : Int} (h : L[k]? = some x) : (overK L k)[k]? = some (.int .u8 x) := by
  have hk := (List.getElem?_eq_some_iff.1 h).1
  unfold overK
  rw [List.getElem?_map, List.getElem?_append_right (by simp; omega), List.getElem?_drop]
  simp only [List.length_map, List.length_take, Nat.min_eq_left (Nat.le_of_lt hk), Nat.sub_self, Nat.add_zero, h]
  rfl
theorem overK_set {L : List Int} {k : Nat} {x : Int} (h : L[k]? = some x) : (overK L k).set k (.int .u8 (x33 x)) = overK L (k + 1) := by
  have hk := (List.getElem?_eq_some_iff.1 h).1
  have hd : L.drop k = x :: L.drop (k + 1) := by
    rw [List.drop_eq_getElem_cons hk]
    have := (List.getElem?_eq_some_iff.1 h).2
    rw [this]
  have hl : ((L.take k).map x33).length = k := by simp; omega
  unfold overK
  rw [hd, List.take_add_one, h, List.map_append, List.set_append_right _ _ (by rw [List.length_map, hl]; omega), List.length_map, hl, Nat.sub_self]
  simp

theorem grown_setCell {w w' : World} {g : Nat} (h : w.grownBy w' (some g)) (k : Nat) (u : Value) : w.grownBy (w'.setCell ⟨g, k, none⟩ u) (some g) :=
  h.trans ⟨rfl, rfl, rfl, by simp [World.setCell], fun i _ hne => Below.heap_setCell _ _ _ _ (fun e => hne (by rw [e]))⟩
theorem x33_bd {b : Int} (h0 : 0 ≤ b) (h1 : b ≤ 255) : 0 ≤ x33 b ∧ x33 b ≤ 255 := by
  obtain ⟨m, rfl⟩ := Int.eq_ofNat_of_zero_le h0
  exact (show ∀ m : Nat, m < 256 → 0 ≤ x33 (m : Int) ∧ x33 (m : Int) ≤ 255 from by decide +kernel) m (by omega)

set_option maxRecDepth 100000 in
set_option maxHeartbeats 1000000 in
theorem back_any (A : Option Addr) (n c B G : Nat) (bs : List Int) (w : World) (hr : Reads w B 1 A n c (bs.map (Value.int .u8))) (hn : n ≤ 1048576) (hBG : B ≤ G) (hBw : B ≤ w.heap.size)
    (hbk : Blk w G 5 ((bs ++ [201, 201, 201, 201, 201]).map (Value.int .u8))) :
    Calls Tryd.prog 14 #[.slice (some ⟨G, 0, none⟩) (n + 5) (n + 5), .slice A n c] w fun e w' => e = .returned (.bool true) ∧ Blk w' G 5 (((bs ++ [201, 201, 201, 201, 201]).map x33).map (Value.int .u8)) ∧ w.grownBy w' (some G) := by
  have hlen := hr.len
  simp only [List.length_map, Nat.mul_one] at hlen
  have hcap := hr.cap
  have hnc := hr.le
  have HLEN := Lib.hid hlen
  clear hlen
  obtain ⟨L, hL⟩ : ∃ L, L = bs ++ [201, 201, 201, 201, 201] := ⟨_, rfl⟩
  have hLl : L.length = n + 5 := by rw [hL]; simp [HLEN.out]
  have HL := Lib.hid hL
  have HLL := Lib.hid hLl
  rw [← hL] at hbk
  rw [← hL]
  clear hL hLl
  go_enter Tryd.func14, Tryd.ntmps14
  go_wp2_with fail
  go_loopw [5, 6] (fun ok i wr => ∃ k : Nat, k ≤ n + 5 ∧ i = .int .i64 k ∧ ok = .bool true ∧ Blk wr G 5 (overK L k) ∧ w.grownBy wr (some G)) (fun _ i _ => n + 5 - (intOf i).toNat)
  case atStart => exact ⟨0, by omega, rfl, rfl, by simpa [overK] using hbk, World.grownBy.refl _ _⟩
  case round =>
    obtain ⟨k, hk, rfl, rfl, hbk, hbel⟩ := hrel
    by_cases hlt : k < n + 5
    case neg =>
      obtain rfl : k = n + 5 := by omega
      go_wp2_with fail
      go_ret
      refine ⟨rfl, ?_, hbel⟩
      unfold overK at hbk
      rw [List.take_of_length_le (by rw [HLL.out]; omega), List.drop_eq_nil_of_le (by rw [HLL.out]; omega), List.append_nil] at hbk
      exact hbk
    obtain ⟨x, hx⟩ : ∃ x, L[k]? = some x := ⟨_, List.getElem?_eq_getElem (by rw [HLL.out]; exact hlt)⟩
    have hc : wr.cell? ⟨G, k, none⟩ = some (.int .u8 x) := by rw [hbk.cell]; exact overK_at hx
    have hf : wr.frozen? ⟨G, k, none⟩ = false := hbk.frozen _
    have hst := hbk.set_ k (.int .u8 (x33 x))
    rw [overK_set hx] at hst
    have hbe := grown_setCell hbel k (.int .u8 (x33 x))
    have hx33 : bits .xor .u8 x 33 = x33 x := rfl
    have HX := Lib.hid hx
    by_cases hkn : k < n
    · have hrk := hr.grown hbel hBw (fun g hg => by cases hg; exact hBG)
      obtain ⟨b, off, rfl, hb, hcx⟩ := hrk.at_ (by omega)
      have hxb : bs[k]? = some x := by
        have := hx
        rw [HL.out, List.getElem?_append_left (by have := HLEN.out; omega)] at this
        exact this
      have hc2 : wr.cell? ⟨b, off + k, none⟩ = some (.int .u8 x) := hcx k _ (by simp [hxb])
      clear hrk hcx hbk hbel hx hxb hr
      go_wp2_with fail
      go_roundw
      case rel => exact ⟨k + 1, by omega, by go_num, rfl, hst, hbe⟩
      case measure => simp [intOf]; omega
    · have hx201 : x = 201 := by
        have := hx
        rw [HL.out, List.getElem?_append_right (by have := HLEN.out; omega), HLEN.out] at this
        have hm : x ∈ [(201 : Int), 201, 201, 201, 201] := List.mem_of_getElem? this
        simpa using hm
      clear hbk hbel hx
      subst hx201
      go_wp2_with fail
      go_roundw
      case rel => exact ⟨k + 1, by omega, by go_num, rfl, hst, hbe⟩
      case measure => simp [intOf]; omega
end Go.Proofs.YtgljhhlnnedmaaaDoor
