/- meaning.unfolded: every sound tree is unfolded. -/
import Derived.Test.YtjeljlgjkjeloaaQUfs
import Derived.Test.YtjeljlgjkjeloaaQUfp
import Derived.Test.YtjeljlgjkjeloaaQUfo
namespace Go.Proofs.Ytjeljlgjkjeloaa
open Go.RowKit Go.Proofs.Ytjeljlgjkjeloaa.Tr

theorem unfolded_any (t : Ta) : UfOk t := by
  induction t using Ta.ind with
  | h t ih =>
    cases t with
    | mk k r ra rc ast l sa sc mn mx z ix nm =>
      by_cases hk : k = 6
      · subst hk
        intro S w h hall hS
        have hnb := ((allB_iff _).1 hall).1
        have hbd : l.length = 1 ∧ 0 ≤ mn ∧ (mx = -1 ∨ mn ≤ mx) := by
          unfold Ta.tr nodeB nodeF at hnb
          simp only [reduceIte, Int.reduceEq, Bool.and_eq_true, Bool.or_eq_true, decide_eq_true_eq, beq_iff_eq, trs_length] at hnb
          exact ⟨hnb.2.1, hnb.2.2.1, hnb.2.2.2.2.imp id (·.1)⟩
        obtain ⟨hl, hn0, hmx⟩ := hbd
        obtain ⟨x, rfl⟩ := List.length_eq_one_iff.1 hl
        have ihx : UfOk x := ih x (by simp [Ta.subs])
        by_cases e1 : mx = -1
        · by_cases e2 : mn = 0
          · exact unf_star r ra rc ast x sa sc mn mx z ix nm e1 e2 ihx S w h hall hS
          · exact unf_plus r ra rc ast x sa sc mn mx z ix nm e1 (by omega) ihx S w h hall hS
        · by_cases e3 : mx = mn
          · exact unf_cat r ra rc ast x sa sc mn mx z ix nm e3 hn0 ihx S w h hall hS
          · exact unf_opt r ra rc ast x sa sc mn mx z ix nm (by omega) hn0 ihx S w h hall hS
      · exact unf_other k r ra rc ast l sa sc mn mx z ix nm hk fun u hu => ih u hu
end Go.Proofs.Ytjeljlgjkjeloaa
