/- same: two lists of ranges. -/
import Derived.Test.YtgljhhlnnedmaaaDoorProg
import Derived.Test.YtgljhhlnnedmaaaDoorFlat
import Derived.Test.YtgljhhlnnedmaaaDoorRunesPure
import Derived.WalkLawsBesides
import Derived.BigQuiet
import Derived.Deep.QuietTactic
import Derived.Handy
namespace Go.Proofs.YtgljhhlnnedmaaaDoor
open Go.RowKit

theorem neq_rng (x1 x2 y1 y2 : Int) (w : World) : (binOp .neq 55 (.agg #[.int .i64 x1, .int .i64 x2]) (.agg #[.int .i64 y1, .int .i64 y2])).run Tryd.prog w = .ok (.bool (!(x1 == y1 && x2 == y2))) w := by
  rw [run_neq_struct]
  rw [show (Op.equalIn 10000 55 (.agg #[.int .i64 x1, .int .i64 x2]) (.agg #[.int .i64 y1, .int .i64 y2])).run Tryd.prog w = .ok (x1 == y1 && x2 == y2) w from by
    cases h1 : x1 == y1 <;> cases h2 : x2 == y2 <;> go_simp]
  rfl
set_option maxHeartbeats 1000000 in
theorem sameR_any (A A' : Option Addr) (n c n' c' B : Nat) (xs ys : List (Int × Int)) (w : World) (hx : Reads w B 2 A n c (flat xs)) (hy : Reads w B 2 A' n' c' (flat ys)) :
    Calls Tryd.prog 30 #[.slice A n c, .slice A' n' c'] w fun e w' => e = .returned (.bool (xs == ys)) ∧ ∃ m, w.drewN m = w' := by
  have hlx := hx.len
  have hly := hy.len
  rw [flat_length] at hlx hly
  have hlx : xs.length = n := by omega
  have hly : ys.length = n' := by omega
  have hxc := hx.le
  have hxm := hx.cap
  have HLX := Lib.hid hlx
  have HLY := Lib.hid hly
  clear hlx hly
  by_cases hnn : n = n'
  case neg =>
    have ht : ((n : Int) != (n' : Int)) = true := by rw [bne_iff_ne]; omega
    go_enter Tryd.func30, Tryd.ntmps30
    go_wp2_with fail
    go_ret
    refine ⟨ret_bool ?_, 0, rfl⟩
    have : ¬ xs = ys := by rintro rfl; exact hnn (HLX.out.symm.trans HLY.out)
    simp [this]
  subst hnn
  have ht : ((n : Int) != (n : Int)) = false := by simp
  go_enter Tryd.func30, Tryd.ntmps30
  go_wp2_with fail
  go_loopw [5] (fun i wr => ∃ k : Nat, k ≤ n ∧ i = .int .i64 k ∧ (∀ j, j < k → xs[j]? = ys[j]?) ∧ ∃ m, w.drewN m = wr) (fun i _ => n - (intOf i).toNat)
  case atStart => exact ⟨0, Nat.zero_le _, rfl, fun j hj => absurd hj (by omega), 0, rfl⟩
  case round =>
    obtain ⟨k, hk, rfl, hall, m, rfl⟩ := hrel
    have HALL := Lib.hid hall
    clear hall
    by_cases hlt : k < n
    · obtain ⟨x, hxk⟩ : ∃ x, xs[k]? = some x := ⟨_, List.getElem?_eq_getElem (by have := HLX.out; omega)⟩
      obtain ⟨y, hyk⟩ : ∃ y, ys[k]? = some y := ⟨_, List.getElem?_eq_getElem (by have := HLY.out; omega)⟩
      obtain ⟨b, off, rfl, hb, hcx⟩ := hx.at_ (by omega)
      obtain ⟨b', off', rfl, hb', hcy⟩ := hy.at_ (by omega)
      have cx1 : w.cell? ⟨b, off + k * 2, none⟩ = some (.int .i64 x.1) := hcx _ _ (flat_get xs k x hxk).1
      have cx2 : w.cell? ⟨b, off + k * 2 + 1, none⟩ = some (.int .i64 x.2) := by rw [Nat.add_assoc]; exact hcx _ _ (flat_get xs k x hxk).2
      have cy1 : w.cell? ⟨b', off' + k * 2, none⟩ = some (.int .i64 y.1) := hcy _ _ (flat_get ys k y hyk).1
      have cy2 : w.cell? ⟨b', off' + k * 2 + 1, none⟩ = some (.int .i64 y.2) := by rw [Nat.add_assoc]; exact hcy _ _ (flat_get ys k y hyk).2
      obtain ⟨x1, x2⟩ := x
      obtain ⟨y1, y2⟩ := y
      have HXK := Lib.hid hxk
      have HYK := Lib.hid hyk
      have HX := Lib.hid hx
      have HY := Lib.hid hy
      clear hxk hyk hcx hcy hx hy
      by_cases hxy : ((x1, x2) : Int × Int) = (y1, y2)
      · have ht2 : ∀ W : World, (binOp .neq 55 (.agg #[.int .i64 x1, .int .i64 x2]) (.agg #[.int .i64 y1, .int .i64 y2])).run Tryd.prog W = .ok (.bool false) W := fun W => by rw [neq_rng]; simp only [Prod.mk.injEq] at hxy; simp [hxy.1, hxy.2]
        have HXY := Lib.hid hxy
        clear hxy
        go_wp2_with fail
        go_quiet (fail)
        go_wp2_with fail
        go_roundw
        case rel => exact ⟨k + 1, by omega, by go_num, fun j hj => by
          rcases Nat.lt_or_ge j k with h | h
          · exact HALL.out j h
          · obtain rfl : j = k := by omega
            rw [HXK.out, HYK.out, HXY.out], m + nq, by first | rfl | rw [World.drewN_drewN]⟩
        case measure => simp [intOf]; omega
      · have ht2 : ∀ W : World, (binOp .neq 55 (.agg #[.int .i64 x1, .int .i64 x2]) (.agg #[.int .i64 y1, .int .i64 y2])).run Tryd.prog W = .ok (.bool true) W := fun W => by rw [neq_rng]; simp only [Prod.mk.injEq] at hxy; simp; omega
        have HXY := Lib.hid hxy
        clear hxy
        go_wp2_with fail
        go_quiet (fail)
        go_wp2_with fail
        go_ret
        refine ⟨ret_bool ?_, m + nq, by first | rfl | rw [World.drewN_drewN]⟩
        have : ¬ xs = ys := by
          rintro rfl
          have h1 := HXK.out
          rw [HYK.out] at h1
          exact HXY.out (by simpa using h1.symm)
        simp [this]
    · go_wp2_with fail
      go_ret
      refine ⟨ret_bool ?_, m, rfl⟩
      have : xs = ys := by
        apply List.ext_getElem?
        intro j
        by_cases hj : j < k
        · exact HALL.out j hj
        · rw [List.getElem?_eq_none (by have := HLX.out; omega), List.getElem?_eq_none (by have := HLY.out; omega)]
      simp [this]
end Go.Proofs.YtgljhhlnnedmaaaDoor
