/- The pure functions on runes: each returns what its plain definition says. -/
import Derived.Test.YtgljhhlnnedmaaaDoorProg
import Derived.WalkKit
import Derived.WalkSpells
import Derived.WalkLawsBesides
import Derived.BigQuiet
import Derived.Deep.QuietTactic
import Derived.Lib.Hide
namespace Go.Proofs.YtgljhhlnnedmaaaDoor
open Go.RowKit

def dom (r : Int) : Bool := decide (0 ≤ r ∧ r ≤ 1114111 ∧ (r < 55296 ∨ 57343 < r))
def word (r : Int) : Bool := decide ((97 ≤ r ∧ r ≤ 122) ∨ (65 ≤ r ∧ r ≤ 90) ∨ (48 ≤ r ∧ r ≤ 57) ∨ r = 95)

theorem ret_bool {a b : Bool} (h : a = b) : Ending.returned (.bool a) = .returned (.bool b) := by rw [h]
theorem ret_int {k : IntKind} {a b : Int} (h : a = b) : Ending.returned (.int k a) = .returned (.int k b) := by rw [h]

set_option maxHeartbeats 400000 in
theorem domain_any (r : Int) (w : World) :
    Calls Tryd.prog 39 #[.int .i64 r] w fun e w' => e = .returned (.bool (dom r)) ∧ w = w' := by
  go_enter Tryd.func39, Tryd.ntmps39
  go_wp2
  all_goals go_ret
  all_goals exact ⟨ret_bool (by unfold dom; rw [Bool.eq_iff_iff]; simp; omega), rfl⟩

set_option maxHeartbeats 400000 in
theorem refDomain_any (r : Int) (w : World) :
    Calls Tryd.prog 36 #[.int .i64 r] w fun e w' => e = .returned (.bool (dom r)) ∧ w = w' := by
  go_enter Tryd.func36, Tryd.ntmps36
  go_wp2
  all_goals go_ret
  all_goals exact ⟨ret_bool (by unfold dom; rw [Bool.eq_iff_iff]; simp; omega), rfl⟩

set_option maxHeartbeats 400000 in
theorem lawDomain_any (r : Int) (w : World) :
    Calls Tryd.prog 20 #[.int .i64 r] w fun e w' => e = .returned (.bool (dom r)) ∧ w = w' := by
  go_enter Tryd.func20, Tryd.ntmps20
  go_wp2
  all_goals go_ret
  all_goals exact ⟨ret_bool (by unfold dom; rw [Bool.eq_iff_iff]; simp; omega), rfl⟩

set_option maxHeartbeats 1000000 in
theorem word_any (r : Int) (w : World) :
    Calls Tryd.prog 22 #[.int .i64 r] w fun e w' => e = .returned (.bool (word r)) ∧ w = w' := by
  go_enter Tryd.func22, Tryd.ntmps22
  go_wp2
  all_goals go_ret
  all_goals exact ⟨ret_bool (by unfold word; rw [Bool.eq_iff_iff]; simp; omega), rfl⟩

set_option maxHeartbeats 1000000 in
theorem refWord_any (r : Int) (w : World) :
    Calls Tryd.prog 23 #[.int .i64 r] w fun e w' => e = .returned (.bool (word r)) ∧ w = w' := by
  go_enter Tryd.func23, Tryd.ntmps23
  go_wp2
  all_goals go_ret
  all_goals exact ⟨ret_bool (by unfold word; rw [Bool.eq_iff_iff]; simp; omega), rfl⟩
end Go.Proofs.YtgljhhlnnedmaaaDoor
