/- simplify: the reckoned forms stay within the limits (plain). -/
import Derived.Test.YtajpkgbgfneacaaQReck
namespace Go.Proofs.Ytajpkgbgfneacaa
open Go.Proofs.Ytajpkgbgfneacaa.Tr

/-- A form of something: one node at least; of a cat two Subs at least. -/
def FB1 (f : Tr.Form) : Prop := FB f ∧ 1 ≤ f.size ∧ 1 ≤ f.deep ∧ (f.kind = 4 → 2 ≤ f.subs)
def JB1 (j : Jn) : Prop := JB j ∧ (j.subs = 1 → FB1 j.only)
theorem jb1_zero : JB1 j0 := by
  simp only [JB1, JB, FB1, FB, j0]; omega
theorem fb1_leaf {k : Int} (hk : k ≠ 4) : FB1 ⟨k, 1, 1, 0⟩ := by
  simp only [FB1, FB]; omega
theorem fb1_above {k : Int} {f : Tr.Form} (h : FB1 f) (hk : k ≠ 4) : FB1 (aboveF k f) := by
  simp only [FB1, FB, aboveF, boundF, cN, cD] at h ⊢; omega
theorem jb1_put {j : Jn} {f : Tr.Form} {n : Int} (hj : JB1 j) (hf : FB1 f) (hn : 0 ≤ n) : JB1 (jput j f n) := by
  by_cases h0 : n = 0 ∨ f.kind = 1
  · obtain ⟨js, jd, jn, o⟩ := j
    have e : jput ⟨js, jd, jn, o⟩ f n = ⟨js, jd, jn, o⟩ := by
      obtain ⟨⟨_, h1, _, _, _, h2⟩, _⟩ := hj
      simp only [] at h1 h2
      simp only [jput, jput1, if_pos h0, cN]
      rw [Int.min_eq_left h1, Int.min_eq_left h2]
    rw [e]; exact hj
  · have hn1 : 1 ≤ n := by omega
    have m1 : 0 ≤ n * (f.size - 1) := Int.mul_nonneg hn (by have := hf.2.1; omega)
    have m2 : 0 ≤ n * f.size := Int.mul_nonneg hn (by have := hf.2.1; omega)
    by_cases h4 : f.kind = 4
    · have m3 : 1 * 2 ≤ n * f.subs := Int.mul_le_mul hn1 (hf.2.2.2 h4) (by decide) hn
      simp only [JB1, JB, FB1, FB] at hj hf
      simp only [JB1, JB, jput, jput1, if_neg h0, if_pos h4, cN]
      generalize n * (f.size - 1) = p at *
      generalize n * f.subs = q at *
      refine ⟨by omega, fun h => ?_⟩
      omega
    · have hff := hf
      simp only [JB1, JB, FB1, FB] at hj hf
      simp only [JB1, JB, jput, jput1, if_neg h0, if_neg h4, cN]
      generalize n * f.size = p at *
      exact ⟨by omega, fun _ => hff⟩
theorem fb1_jform {j : Jn} (hj : JB1 j) : FB1 (jform j) := by
  unfold jform
  by_cases h0 : j.subs = 0
  · rw [if_pos h0]; exact fb1_leaf (by decide)
  · by_cases h1 : j.subs = 1
    · rw [if_neg h0, if_pos h1]; exact hj.2 h1
    · rw [if_neg h0, if_neg h1]
      have h := hj.1
      simp only [JB] at h
      simp only [FB1, FB, boundF, cN, cD]
      omega
theorem fb1_opt {y : Tr.Form} (h : FB1 y) : ∀ n, FB1 (optF y n)
  | 0 => fb1_leaf (by decide)
  | n + 1 => fb1_above (fb1_jform (jb1_put (jb1_put jb1_zero h (by decide)) (fb1_opt h n) (by decide))) (by decide)
theorem fb1_times {y : Tr.Form} (h : FB1 y) {mn mx : Int} (h0 : 0 ≤ mn) : FB1 (timesF y mn mx) := by
  unfold timesF
  by_cases hm : mx < 0 ∧ mn = 0
  · rw [if_pos hm]; exact fb1_above h (by decide)
  · by_cases hx : mx < 0
    · rw [if_neg hm, if_pos hx]
      exact fb1_jform (jb1_put (jb1_put jb1_zero h (by omega)) (fb1_above h (by decide)) (by decide))
    · rw [if_neg hm, if_neg hx]
      exact fb1_jform (jb1_put (jb1_put jb1_zero h h0) (fb1_opt h _) (by decide))
theorem fb1_joins {l : List Tr.Form} : ∀ {j : Jn}, JB1 j → (∀ f ∈ l, FB1 f) → JB1 (l.foldl (fun j f => jput j f 1) j) := by
  induction l with
  | nil => intro j hj _; exact hj
  | cons f l ih =>
    intro j hj hl
    exact ih (jb1_put hj (hl f (by simp)) (by decide)) (fun g hg => hl g (by simp [hg]))
/-- An alternative's numbers, so far. -/
def AB (p : Int × Int) : Prop := 0 ≤ p.1 ∧ p.1 ≤ 200001 ∧ 0 ≤ p.2 ∧ p.2 ≤ 10001
theorem ab_put {p : Int × Int} {f : Tr.Form} (hp : AB p) (hf : FB1 f) : AB (altPutF p f) := by
  simp only [AB, FB1, FB] at hp hf
  unfold altPutF
  by_cases h : f.kind = 5
  · simp only [if_pos h, AB, cN]; omega
  · simp only [if_neg h, AB, cN]; omega
end Go.Proofs.Ytajpkgbgfneacaa
