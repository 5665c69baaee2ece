/- sameInts: two lists of numbers. -/
import Derived.Test.YtgljhhlnnedmaaaDoorProg
import Derived.Test.YtgljhhlnnedmaaaDoorMem
import Derived.Test.YtgljhhlnnedmaaaDoorRunesPure
import Derived.WalkLawsBesides
import Derived.BigQuiet
import Derived.Deep.QuietTactic
import Derived.Handy
namespace Go.Proofs.YtgljhhlnnedmaaaDoor
open Go.RowKit

set_option maxHeartbeats 1000000 in
theorem sameInts_any (A A' : Option Addr) (n c n' c' B : Nat) (xs ys : List Int) (w : World) (hx : Reads w B 1 A n c (xs.map (Value.int .i64))) (hy : Reads w B 1 A' n' c' (ys.map (Value.int .i64))) :
    Calls Tryd.prog 17 #[.slice A n c, .slice A' n' c'] w fun e w' => e = .returned (.bool (xs == ys)) ∧ ∃ m, w.drewN m = w' := by
  have hlx := hx.len
  have hly := hy.len
  simp only [List.length_map, Nat.mul_one] at hlx hly
  have hxc := hx.le
  have hxm := hx.cap
  have HLX := Lib.hid hlx
  have HLY := Lib.hid hly
  clear hlx hly
  by_cases hnn : n = n'
  case neg =>
    have ht : ((n : Int) != (n' : Int)) = true := by rw [bne_iff_ne]; omega
    go_enter Tryd.func17, Tryd.ntmps17
    go_wp2_with fail
    go_ret
    refine ⟨ret_bool ?_, 0, rfl⟩
    have : ¬ xs = ys := by rintro rfl; exact hnn (HLX.out.symm.trans HLY.out)
    simp [this]
  subst hnn
  have ht : ((n : Int) != (n : Int)) = false := by simp
  go_enter Tryd.func17, Tryd.ntmps17
  go_wp2_with fail
  go_loopw [5] (fun i wr => ∃ k : Nat, k ≤ n ∧ i = .int .i64 k ∧ (∀ j, j < k → xs[j]? = ys[j]?) ∧ ∃ m, w.drewN m = wr) (fun i _ => n - (intOf i).toNat)
  case atStart => exact ⟨0, Nat.zero_le _, rfl, fun j hj => absurd hj (by omega), 0, rfl⟩
  case round =>
    obtain ⟨k, hk, rfl, hall, m, rfl⟩ := hrel
    have HALL := Lib.hid hall
    clear hall
    by_cases hlt : k < n
    · obtain ⟨x, hxk⟩ : ∃ x, xs[k]? = some x := ⟨_, List.getElem?_eq_getElem (by have := HLX.out; omega)⟩
      obtain ⟨y, hyk⟩ : ∃ y, ys[k]? = some y := ⟨_, List.getElem?_eq_getElem (by have := HLY.out; omega)⟩
      obtain ⟨b, off, rfl, hb, hcx⟩ := hx.at_ (by omega)
      obtain ⟨b', off', rfl, hb', hcy⟩ := hy.at_ (by omega)
      have cx : w.cell? ⟨b, off + k, none⟩ = some (.int .i64 x) := hcx k _ (by simp [hxk])
      have cy : w.cell? ⟨b', off' + k, none⟩ = some (.int .i64 y) := hcy k _ (by simp [hyk])
      have HXK := Lib.hid hxk
      have HYK := Lib.hid hyk
      have HX := Lib.hid hx
      have HY := Lib.hid hy
      clear hxk hyk hcx hcy hx hy
      by_cases hxy : x = y
      · have ht2 : (x != y) = false := by simp [hxy]
        have HXY := Lib.hid hxy
        clear hxy
        go_wp2_with fail
        go_quiet (fail)
        go_wp2_with fail
        go_roundw
        case rel => exact ⟨k + 1, by omega, by go_num, fun j hj => by
          rcases Nat.lt_or_ge j k with h | h
          · exact HALL.out j h
          · obtain rfl : j = k := by omega
            rw [HXK.out, HYK.out, HXY.out], m + nq, by first | rfl | rw [World.drewN_drewN]⟩
        case measure => simp [intOf]; omega
      · have ht2 : (x != y) = true := by simpa using hxy
        have HXY := Lib.hid hxy
        clear hxy
        go_wp2_with fail
        go_quiet (fail)
        go_wp2_with fail
        go_ret
        refine ⟨ret_bool ?_, m + nq, by first | rfl | rw [World.drewN_drewN]⟩
        have : ¬ xs = ys := by
          rintro rfl
          have h1 := HXK.out
          rw [HYK.out] at h1
          exact HXY.out (by simpa using h1.symm)
        simp [this]
    · go_wp2_with fail
      go_ret
      refine ⟨ret_bool ?_, m, rfl⟩
      have : xs = ys := by
        apply List.ext_getElem?
        intro j
        by_cases hj : j < k
        · exact HALL.out j hj
        · rw [List.getElem?_eq_none (by have := HLX.out; omega), List.getElem?_eq_none (by have := HLY.out; omega)]
      simp [this]
end Go.Proofs.YtgljhhlnnedmaaaDoor
