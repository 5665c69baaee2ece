/- simplify.unfolded: what it gives, in one. -/
import Derived.Test.YtajpkgbgfneacaaQUnf
import Derived.Test.YtajpkgbgfneacaaQUnfO
namespace Go.Proofs.Ytajpkgbgfneacaa
open Go.RowKit Go.Proofs.Ytajpkgbgfneacaa.Tr

theorem unfolded_any (B : Nat) (y t : Ta) (w : World) (hy : RT w (Fr B [] w) y) (hB : B ≤ w.heap.size) (hal : allB y.tr = true) (h0 : 0 ≤ t.tr.mn) (h1 : t.tr.mn ≤ 1000) (hx : t.tr.mx ≤ 1000) (hsy : size y.tr ≤ 200000) (hs : size (unfoldS y.tr t.tr.mn t.tr.mx t.tr.lz) ≤ 200000) :
    Calls Try.prog 33 #[y.val, t.val] w fun e w' => ∃ u : Ta, e = .returned u.val ∧ u.tr = unfoldS y.tr t.tr.mn t.tr.mx t.tr.lz ∧ RT w' (Fr B [] w') u ∧ Below w.heap.size w w' := by
  have hp : (putT y.tr).length ≤ 200000 := by
    have := size_pos y.tr
    unfold putT
    by_cases k1 : y.tr.kind = 1
    · rw [if_pos k1]; simp
    · by_cases k4 : y.tr.kind = 4
      · rw [if_neg k1, if_pos k4]
        have h2 := len_sizes y.tr.subs
        have h3 : sizes y.tr.subs + 1 = size y.tr := by cases y.tr with | mk k r a l n m z i s => rw [size]; rfl
        omega
      · rw [if_neg k1, if_neg k4]; simp
  cases t with
  | mk k r ra rc ast l sa sc mn mx z ix nm =>
  simp only [Ta.tr, Tr.mn, Tr.mx, Tr.lz] at h0 h1 hx hs ⊢
  unfold unfoldS at hs ⊢
  by_cases hm : mx < 0
  · by_cases hz : mn = 0
    · rw [if_pos ⟨hm, hz⟩]
      exact unf_star B y k r ra rc ast l sa sc mn mx z ix nm w hy hB hm (by rw [hz]; rfl)
    · rw [if_neg (fun h => hz h.2), if_pos hm] at hs ⊢
      refine unf_plus B y k r ra rc ast l sa sc mn mx z ix nm w hy hB hal hm (beq_eq_false_iff_ne.2 hz) h0 h1 ?_
      have h2 := row_len (reps (putT y.tr) (mn - 1).toNat ++ putT (repT y.tr 1 (-1) z))
      rw [List.length_append, reps_len] at h2
      have h3 : size (row (reps (putT y.tr) (mn - 1).toNat ++ putT (repT y.tr 1 (-1) z))) ≤ 200000 := hs
      rw [Nat.add_mul, Nat.one_mul]
      omega
  · rw [if_neg (fun h => hm h.1), if_neg hm] at hs ⊢
    refine unf_opt B y k r ra rc ast l sa sc mn mx z ix nm w hy hB hal (by omega) hx h0 h1 ?_
    have h2 := row_len (reps (putT y.tr) mn.toNat ++ putT (optS y.tr z (mx - mn).toNat))
    rw [List.length_append, reps_len] at h2
    have h3 : size (row (reps (putT y.tr) mn.toNat ++ putT (optS y.tr z (mx - mn).toNat))) ≤ 200000 := hs
    rw [Nat.add_mul, Nat.one_mul]
    omega
end Go.Proofs.Ytajpkgbgfneacaa
