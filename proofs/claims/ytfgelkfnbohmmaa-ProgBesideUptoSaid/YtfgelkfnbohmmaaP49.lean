/- heronref09.may -/
import Derived.Test.YtfgelkfnbohmmaaP03
import Derived.Test.YtfgelkfnbohmmaaP44
namespace Go.Proofs.Ytfgelkfnbohmmaa
open Go.RowKit Go.Proofs.Ytfgelkfnbohmmaa.Mach
set_option maxRecDepth 100000 in
set_option maxHeartbeats 4000000 in
theorem refMay_any (I : Ins) (A : Option Addr) (rn rc : Nat) (n caps : Int) (w : World) (hr : Reads w w.heap.size 2 A rn rc (flat I.rng)) :
    Calls Try.prog 26 #[.agg #[.int .i64 I.op, .int .i64 I.x, .int .i64 I.y, .int .i64 I.arg, .slice A rn rc], .int .i64 n, .int .i64 caps] w fun e w' => e = .returned (.bool (mayB I n caps)) ∧ Below w.heap.size w w' := by
  obtain ⟨op, x, y, arg, rng⟩ := I
  simp only [] at hr ⊢
  have hlen : rng.length = rn := by have := hr.len; rw [flat_length] at this; omega
  have HLEN := Lib.hid hlen
  have hnc := hr.le
  have hcap := hr.cap
  have HR := Lib.hid hr
  have HNIL := Lib.hid (show rng = [] ↔ rn = 0 from by rw [← hlen]; exact ⟨fun h => by rw [h]; rfl, List.eq_nil_of_length_eq_zero⟩)
  clear hr hlen
  rcases (show op = 1 ∨ op = 2 ∨ op = 3 ∨ op = 4 ∨ op = 5 ∨ op = 6 ∨ op = 7 ∨ (op < 1 ∨ 7 < op) from by omega) with rfl | rfl | rfl | rfl | rfl | rfl | rfl | hop
  case' inr.inr.inr.inr.inr.inr.inr => rcases hop with hop | hop
  all_goals
    go_enter Try.func26, Try.ntmps26
    go_wp2_with (go_at_call 40; refine (refRight_any A rn rc w.heap.size rng _ (HR.out.alloc (Nat.le_refl _) _)).mono ?_; rintro e w' ⟨rfl, m, rfl⟩)
    all_goals go_ret
    all_goals refine ⟨ret_bool ?_, bdrewN ((Below.refl _ _).alloc (Nat.le_refl _) _) _⟩
    all_goals unfold mayB
    all_goals simp only [HNIL.out, ne_eq]
    all_goals (first | (simp [isAs, *]; done) | (simp [isAs, *]; omega) | (simp_all [isAs]; done) | (simp_all [isAs]; omega) | (rw [Bool.eq_iff_iff]; simp [isAs, *]; done) | (rw [Bool.eq_iff_iff]; simp [isAs, *]; omega) | (rw [Bool.eq_iff_iff]; simp_all; done))
end Go.Proofs.Ytfgelkfnbohmmaa
