/- prog.may: may an instruction stand in a program? -/
import Derived.Test.YteiggbbljgkloaaQMemIns
import Derived.Handy
namespace Go.Proofs.Yteiggbbljgkloaa
open Go.RowKit Go.Proofs.Yteiggbbljgkloaa.Mach

set_option maxHeartbeats 1000000 in
theorem there_any (i n : Int) (bx : Nat) (w : World) (hc : w.cell? ⟨bx, 0, none⟩ = some (.int .i64 n)) :
    Calls Try.prog 46 #[.int .i64 i, .pointer (some ⟨bx, 0, none⟩)] w fun e w' => e = .returned (.bool (decide (0 ≤ i ∧ i < n))) ∧ w = w' := by
  by_cases h1 : 0 ≤ i <;> by_cases h2 : i < n
  all_goals
    go_enter Try.func46, Try.ntmps46
    go_wp2_with fail
    go_ret
    exact ⟨ret_bool (by simp [h1, h2]), rfl⟩

set_option maxRecDepth 100000 in
set_option maxHeartbeats 4000000 in
theorem may_any (I : Ins) (A : Option Addr) (rn rc : Nat) (n caps : Int) (w : World) (hr : Reads w w.heap.size 2 A rn rc (flat I.rng)) :
    Calls Try.prog 32 #[.agg #[.int .i64 I.op, .int .i64 I.x, .int .i64 I.y, .int .i64 I.arg, .slice A rn rc], .int .i64 n, .int .i64 caps] w fun e w' => e = .returned (.bool (mayB I n caps)) ∧ Below w.heap.size w w' := by
  obtain ⟨op, x, y, arg, rng⟩ := I
  simp only [] at hr ⊢
  have hmf : ∀ (fn : Fn) (first cap : Array Value) (w : World), (Instr.makeFunc fn first cap).run Try.prog w = .ok (.func fn first cap) w := fun _ _ _ _ => rfl
  have hlen : rng.length = rn := by have := hr.len; rw [flat_length] at this; omega
  have HLEN := Lib.hid hlen
  have hnc := hr.le
  have hcap := hr.cap
  have HR := Lib.hid hr
  have HNIL := Lib.hid (show rng = [] ↔ rn = 0 from by rw [← hlen]; exact ⟨fun h => by rw [h]; rfl, List.eq_nil_of_length_eq_zero⟩)
  clear hr hlen
  rcases (show op = 1 ∨ op = 2 ∨ op = 3 ∨ op = 4 ∨ op = 5 ∨ op = 6 ∨ op = 7 ∨ (op < 1 ∨ 7 < op) from by omega) with rfl | rfl | rfl | rfl | rfl | rfl | rfl | hop
  case' inr.inr.inr.inr.inr.inr.inr => rcases hop with hop | hop
  all_goals
    go_enter Try.func32, Try.ntmps32
    go_wp2_with (first
      | (go_at_call 46; refine (there_any _ n (w.heap.size + 1) _ (by go_simp)).mono ?_; rintro e w' ⟨rfl, rfl⟩)
      | (go_at_call 33; refine (right_any A rn rc rng _ (((HR.out.alloc (Nat.le_refl _) _).alloc (by simp) _).more (by simp; omega))).mono ?_; rintro e w' ⟨rfl, hb2⟩; have hb3 := ((((Below.refl w.heap.size w).alloc (Nat.le_refl _) _).alloc (by simp) _).trans (hb2.mono (by simp; omega)))))
    all_goals go_ret
    all_goals refine ⟨ret_bool ?_, by first | exact ((Below.refl _ _).alloc (Nat.le_refl _) _).alloc (by simp) _ | exact hb3⟩
    all_goals unfold mayB
    all_goals simp only [HNIL.out, ne_eq]
    all_goals (first | (simp [isAs, *]; done) | (simp [isAs, *]; omega) | (simp_all [isAs]; done) | (simp_all [isAs]; omega) | (rw [Bool.eq_iff_iff]; simp [isAs, *]; done) | (rw [Bool.eq_iff_iff]; simp [isAs, *]; omega) | (rw [Bool.eq_iff_iff]; simp_all; done))
end Go.Proofs.Yteiggbbljgkloaa
