/- Halving in a right class. No program here. -/
import Derived.Test.YteiggbbljgkloaaQHas
namespace Go.Proofs.Yteiggbbljgkloaa
open Go.RowKit

def hiAt (l : List (Int × Int)) (j : Nat) : Int := (l[j]?.getD (0, 0)).2
def loAt (l : List (Int × Int)) (j : Nat) : Int := (l[j]?.getD (0, 0)).1
theorem right_at {l : List (Int × Int)} (h : rightB l = true) {j : Nat} (hj : j < l.length) : okAt l j = true := by
  unfold rightB clsB at h
  rw [Bool.and_eq_true, List.all_eq_true] at h
  exact h.2 j (List.mem_range.2 hj)
theorem right_le {l : List (Int × Int)} (h : rightB l = true) {j : Nat} (hj : j < l.length) : loAt l j ≤ hiAt l j := by
  have := right_at h hj
  unfold okAt at this
  unfold loAt hiAt
  rw [List.getElem?_eq_getElem hj] at this ⊢
  simp only [okx, Bool.and_eq_true, decide_eq_true_eq] at this
  exact this.1.1.2
theorem right_next {l : List (Int × Int)} (h : rightB l = true) {j : Nat} (hj : j + 1 < l.length) : hiAt l j + 1 < loAt l (j + 1) := by
  have := right_at h hj
  unfold okAt at this
  unfold loAt hiAt
  rw [List.getElem?_eq_getElem hj] at this ⊢
  simp only [Nat.add_sub_cancel, List.getElem?_eq_getElem (show j < l.length by omega), Bool.and_eq_true, Bool.or_eq_true, decide_eq_true_eq, beq_iff_eq] at this ⊢
  rcases this.2 with h1 | h1
  · omega
  · exact h1
theorem right_mono {l : List (Int × Int)} (h : rightB l = true) : ∀ (d i : Nat), i + d < l.length → 0 < d → hiAt l i < loAt l (i + d)
  | 1, i, hl, _ => by have := right_next h hl; omega
  | d + 2, i, hl, _ => by
    have h1 := right_mono h (d + 1) i (by omega) (by omega)
    have h2 := right_next h (j := i + (d + 1)) (by omega)
    have h3 := right_le h (j := i + (d + 1)) (by omega)
    have e : i + (d + 1) + 1 = i + (d + 2) := by omega
    rw [e] at h2
    omega
theorem right_hi {l : List (Int × Int)} (h : rightB l = true) {i j : Nat} (hij : i ≤ j) (hj : j < l.length) : hiAt l i ≤ hiAt l j := by
  rcases Nat.lt_or_ge i j with hlt | hge
  · have h1 := right_mono h (j - i) i (by omega) (by omega)
    rw [show i + (j - i) = j from by omega] at h1
    have h2 := right_le h hj
    omega
  · obtain rfl : i = j := by omega
    exact Int.le_refl _
/-- What the halving comes to. -/
theorem fits_end {l : List (Int × Int)} (h : rightB l = true) {f : Nat} {c : Int} (hf : f ≤ l.length) (hlo : ∀ j, j < f → hiAt l j < c) (hhi : ∀ j, f ≤ j → j < l.length → c ≤ hiAt l j) :
    (decide (f < l.length) && decide (loAt l f ≤ c)) = memB l c := by
  rw [Bool.eq_iff_iff, Bool.and_eq_true, decide_eq_true_eq, decide_eq_true_eq]
  unfold memB
  rw [List.any_eq_true]
  constructor
  · rintro ⟨h1, h2⟩
    refine ⟨l[f], List.getElem_mem h1, ?_⟩
    have h3 := hhi f (Nat.le_refl _) h1
    unfold loAt at h2
    unfold hiAt at h3
    rw [List.getElem?_eq_getElem h1] at h2 h3
    exact decide_eq_true ⟨h2, h3⟩
  · rintro ⟨x, hx, hd⟩
    obtain ⟨j, hj⟩ := List.mem_iff_getElem?.1 hx
    have hjl := (List.getElem?_eq_some_iff.1 hj).1
    simp only [decide_eq_true_eq] at hd
    have e1 : loAt l j = x.1 := by unfold loAt; rw [hj]; rfl
    have e2 : hiAt l j = x.2 := by unfold hiAt; rw [hj]; rfl
    have hfj : f ≤ j := by
      rcases Nat.lt_or_ge j f with hlt | hge
      · have := hlo j hlt; omega
      · exact hge
    have hfl : f < l.length := by omega
    refine ⟨hfl, ?_⟩
    rcases Nat.lt_or_ge f j with hlt | hge
    · have h1 := right_mono h (j - f) f (by omega) (by omega)
      rw [show f + (j - f) = j from by omega] at h1
      have := hhi f (Nat.le_refl _) hfl
      omega
    · obtain rfl : f = j := by omega
      omega
end Go.Proofs.Yteiggbbljgkloaa
