/- A map of bits in words of 64. No program here. -/
import Derived.Test.YteiggbbljgkloaaQMach
import Derived.Laws.Bits64b
import Derived.WalkKit
namespace Go.Proofs.Yteiggbbljgkloaa
open Go.RowKit Go.Proofs.Yteiggbbljgkloaa.Mach

theorem mask_test (x s : Nat) (hx : x < 18446744073709551616) : (bits .and .u64 ((x : Int) / 2 ^ s) 1 == 1) = x.testBit s := by
  have e : (x : Int) / 2 ^ s = ((x / 2 ^ s : Nat) : Int) := by norm_cast
  have hle : x / 2 ^ s ≤ x := Nat.div_le_self _ _
  have := bits_and_u64_nat (x / 2 ^ s) 1 (by omega) (by omega)
  rw [e, show (1 : Int) = ((1 : Nat) : Int) from rfl, this, Nat.and_one_is_mod, Nat.testBit_eq_decide_div_mod_eq]
  rw [Bool.eq_iff_iff, beq_iff_eq, decide_eq_true_iff]
  omega
theorem mask_wrap (s : Nat) (hs : s < 64) : IntKind.u64.wrap (2 ^ s) = ((2 ^ s : Nat) : Int) := by
  have := (by decide +kernel : ∀ s < 64, IntKind.u64.wrap (2 ^ s) = ((2 ^ s : Nat) : Int))
  exact this s hs
theorem mask_set (x s : Nat) (hx : x < 18446744073709551616) (hs : s < 64) : bits .or .u64 (x : Int) (IntKind.u64.wrap (2 ^ s)) = ((x ||| 2 ^ s : Nat) : Int) := by
  rw [mask_wrap s hs]
  refine bits_or_u64_nat _ _ hx ?_
  have := Nat.pow_lt_pow_right (a := 2) (by omega) hs
  exact this
structure Bits (ws : List Nat) (met : List Bool) : Prop where
  len : ws.length = met.length / 64 + 1
  small : ∀ x ∈ ws, x < 18446744073709551616
  bit : ∀ q, q < met.length → (ws.getD (q / 64) 0).testBit (q % 64) = met.getD q true
theorem Bits.new (N : Nat) : Bits (List.replicate (N / 64 + 1) 0) (List.replicate N false) where
  len := by simp
  small := fun x hx => by rw [(List.mem_replicate.1 hx).2]; omega
  bit := fun q hq => by
    rw [List.length_replicate] at hq
    rw [List.getD_eq_getElem?_getD, List.getElem?_replicate, if_pos (by omega), List.getD_eq_getElem?_getD, List.getElem?_replicate, if_pos hq]
    simp
section
variable {ws : List Nat} {met : List Bool} (h : Bits ws met) {q : Nat} (hq : q < met.length)
include h hq
theorem Bits.at_ : ∃ x, ws[q / 64]? = some x ∧ x < 18446744073709551616 ∧ x.testBit (q % 64) = met.getD q true := by
  have hl : q / 64 < ws.length := by rw [h.len]; omega
  refine ⟨ws[q / 64], List.getElem?_eq_getElem hl, h.small _ (List.getElem_mem hl), ?_⟩
  rw [← h.bit q hq, List.getD_eq_getElem?_getD, List.getElem?_eq_getElem hl]
  rfl
theorem Bits.set_ {x : Nat} (hx : ws[q / 64]? = some x) : Bits (ws.set (q / 64) (x ||| 2 ^ (q % 64))) (met.set q true) where
  len := by simp [h.len]
  small := fun y hy => by
    rcases List.mem_or_eq_of_mem_set hy with hy | rfl
    · exact h.small y hy
    · have hx2 := h.small x (List.mem_of_getElem? hx)
      have h2 : (2 : Nat) ^ (q % 64) < 2 ^ 64 := Nat.pow_lt_pow_right (by omega) (by omega)
      exact Nat.or_lt_two_pow (n := 64) hx2 h2
  bit := fun r hr => by
    rw [List.length_set] at hr
    have hl : q / 64 < ws.length := by rw [h.len]; omega
    have hold := h.bit r hr
    rw [List.getD_eq_getElem?_getD, List.getElem?_set, List.getD_eq_getElem?_getD, List.getElem?_set]
    rw [List.getD_eq_getElem?_getD, List.getD_eq_getElem?_getD] at hold
    by_cases e : q = r
    · subst e
      rw [if_pos rfl, if_pos hl, if_pos rfl, if_pos hr]
      simp [Nat.testBit_or, Nat.testBit_two_pow_self]
    · rw [if_neg e]
      by_cases e2 : q / 64 = r / 64
      · rw [if_pos e2, if_pos hl, ← hold, ← e2, hx]
        have hne : q % 64 ≠ r % 64 := by omega
        simp [Nat.testBit_or, Nat.testBit_two_pow_of_ne hne]
      · rw [if_neg e2]
        exact hold
end
end Go.Proofs.Yteiggbbljgkloaa
