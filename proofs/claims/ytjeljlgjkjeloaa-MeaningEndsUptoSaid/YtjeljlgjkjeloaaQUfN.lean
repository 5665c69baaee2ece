/- How many nodes an unfolded tree has at most. No program here. -/
import Derived.Test.YtjeljlgjkjeloaaQUfW
import Derived.Test.YtjeljlgjkjeloaaQMSize
namespace Go.Proofs.Ytjeljlgjkjeloaa
open Go.RowKit Go.Proofs.Ytjeljlgjkjeloaa.Tr

theorem szUs_append : ∀ a b : List Us, szUs (a ++ b) = szUs a + szUs b
  | [], b => by simp [szUs]
  | t :: a, b => by rw [List.cons_append, szUs, szUs, szUs_append a b]; omega
theorem szUs_rep (x : Us) : ∀ n : Nat, szUs (List.replicate n x) = n * szU x
  | 0 => by simp [szUs]
  | n + 1 => by rw [List.replicate_succ, szUs, szUs_rep x n, Nat.succ_mul]; omega
theorem szU_opt (z : Bool) (x : Us) : ∀ n : Nat, szU (optU z x n) = (n + 1) * szU x + 2 * n + 1
  | 0 => by simp [optU, loopU, szU, szUs]
  | n + 1 => by
    rw [optU, loopU, szU, szUs, szUs, catU, szU, szUs, szUs, szUs, szU_opt z x n, Nat.succ_mul (n + 1)]
    omega
/-- A repeat's. -/
theorem szU_rep {x : Us} {n m : Int} {z : Bool} {X N D : Nat} (hX : szU x = X) (hle : X ≤ 2 * D * N) (hN : 1 ≤ N) (hn : 0 ≤ n) (hm : m = -1 ∨ n ≤ m) :
    szU (repU x n m z) ≤ 2 * (D + 1) * (if m = -1 then max n.toNat 1 * N + 1 else max 1 (n.toNat * N + (m - n).toNat * (1 + N))) := by
  obtain ⟨a, rfl⟩ : ∃ a : Nat, n = (a : Int) := ⟨n.toNat, by omega⟩
  unfold repU
  rw [Int.toNat_natCast]
  have e1 : 2 * (D + 1) = 2 * D + 2 := by omega
  split
  · split
    · rename_i h0
      obtain rfl : a = 0 := by omega
      rw [loopU, szU, szUs, szUs, hX, show max 0 1 * N + 1 = N + 1 from by simp, e1, Nat.add_mul, Nat.mul_add]
      omega
    · rename_i h0
      have h1 : 1 ≤ a := by omega
      rw [catU, szU, szUs_append, szUs_rep, szUs, szUs, loopU, szU, szUs, szUs, hX, show ((a : Int) - 1).toNat = a - 1 from by omega, show max a 1 = a from by omega, e1]
      have h2 : (a - 1) * X + X = a * X := by rw [← Nat.succ_mul]; congr 1; omega
      have h3 : a * X ≤ a * (2 * D * N) := Nat.mul_le_mul_left _ hle
      have h4 : a * (2 * D * N) = 2 * D * (a * N) := by rw [Nat.mul_left_comm]
      rw [Nat.add_mul, Nat.mul_add]
      omega
  · rename_i hm1
    obtain ⟨b, rfl⟩ : ∃ b : Nat, m = (b : Int) := ⟨m.toNat, by omega⟩
    split
    · rw [emptyU, szU, szUs]
      have := Nat.le_mul_of_pos_right (2 * (D + 1)) (show 0 < max 1 (a * N + ((b : Int) - (a : Int)).toNat * (1 + N)) from by omega)
      omega
    · rename_i h0
      obtain ⟨d, hd⟩ : ∃ d : Nat, d = ((b : Int) - (a : Int)).toNat := ⟨_, rfl⟩
      rw [← hd]
      rw [catU, szU, szUs_append, szUs_rep, hX]
      have h3 : a * X ≤ a * (2 * D * N) := Nat.mul_le_mul_left _ hle
      have h4 : a * (2 * D * N) = 2 * D * (a * N) := by rw [Nat.mul_left_comm]
      split
      · rename_i h1
        rw [szUs, szUs, szU_opt, hX, show ((b : Int) - (a : Int) - 1).toNat = d - 1 from by omega, show d - 1 + 1 = d from by omega]
        have h5 : d * X ≤ d * (2 * D * N) := Nat.mul_le_mul_left _ hle
        have h6 : d * (2 * D * N) = 2 * D * (d * N) := by rw [Nat.mul_left_comm]
        have h7 : d * (1 + N) = d + d * N := by rw [Nat.mul_add, Nat.mul_one]
        have h8 : 1 ≤ d := by omega
        rw [show max 1 (a * N + d * (1 + N)) = a * N + (d + d * N) from by omega, e1, Nat.add_mul, Nat.mul_add, Nat.mul_add]
        have h9 : d ≤ 2 * D * d + d := by omega
        omega
      · rename_i h1
        have h8 : d = 0 := by omega
        have h9 : 1 ≤ a := by omega
        have h10 : N ≤ a * N := Nat.le_mul_of_pos_left N h9
        rw [h8, szUs, Nat.zero_mul, show max 1 (a * N + 0) = a * N from by omega, e1, Nat.add_mul]
        omega
mutual
theorem uz_pos : ∀ t : Tr.Tr, 1 ≤ uz t
  | .mk k r a l n m z i s => by
    rw [uz]
    split
    · omega
    · split <;> omega
end
mutual
theorem sz_le : ∀ (t : Tr.Tr) (D : Nat), allB t = true → deep t ≤ D → szU (unfS t) ≤ 2 * D * uz t
  | .mk k r a l n m z i s, D, h, hd => by
    obtain ⟨hnb, hsub⟩ := (allB_iff _).1 h
    rw [deep] at hd
    obtain ⟨D', rfl⟩ : ∃ D', D = D' + 1 := ⟨D - 1, by omega⟩
    have hs := szs_le l D' hsub (by omega)
    rw [unfS, uz]
    split
    · rename_i hk
      rw [szU, show 2 * (D' + 1) = 2 * D' + 2 from by omega, Nat.add_mul, Nat.mul_add]
      omega
    · rename_i hk
      have hk6 : k = 6 := by omega
      subst hk6
      have hbd : l.length = 1 ∧ 0 ≤ n ∧ (m = -1 ∨ n ≤ m) := by
        unfold nodeB nodeF at hnb
        simp only [reduceIte, Int.reduceEq, Bool.and_eq_true, Bool.or_eq_true, decide_eq_true_eq, beq_iff_eq] at hnb
        exact ⟨hnb.2.1, hnb.2.2.1, hnb.2.2.2.2.imp id (·.1)⟩
      obtain ⟨hl, hn0, hmx⟩ := hbd
      obtain ⟨x, rfl⟩ := List.length_eq_one_iff.1 hl
      simp only [unfSs, szUs, uzs, List.headD_cons, Nat.add_zero] at hs ⊢
      exact szU_rep rfl hs (uz_pos x) hn0 hmx
theorem szs_le : ∀ (l : List Tr.Tr) (D : Nat), (∀ u ∈ l, allB u = true) → deeps l ≤ D → szUs (unfSs l) ≤ 2 * D * uzs l
  | [], _, _, _ => by simp [unfSs, szUs, uzs]
  | t :: l, D, h, hd => by
    rw [deeps] at hd
    have h1 := sz_le t D (h t List.mem_cons_self) (by omega)
    have h2 := szs_le l D (fun v hv => h v (List.mem_cons_of_mem _ hv)) (by omega)
    rw [unfSs, szUs, uzs, Nat.mul_add]
    omega
end
end Go.Proofs.Ytjeljlgjkjeloaa
