/- Ranges in memory: two cells each. No program here. -/
import Derived.Test.YtajpkgbgfneacaaQMem
import Derived.WalkLawsBesides
namespace Go.Proofs.Ytajpkgbgfneacaa
open Go.RowKit

/-- A range's two cells. -/
def encR (x : Int × Int) : List Value := [.int .i64 x.1, .int .i64 x.2]
/-- The cells of ranges. -/
def flat (l : List (Int × Int)) : List Value := l.flatMap encR
theorem flat_length (l : List (Int × Int)) : (flat l).length = l.length * 2 := by
  induction l with
  | nil => rfl
  | cons x l ih => simp only [flat, List.flatMap_cons, List.length_append, List.length_cons] at *; simp only [encR, List.length_cons, List.length_nil]; omega
theorem flat_append (l m : List (Int × Int)) : flat (l ++ m) = flat l ++ flat m := by simp [flat]
theorem flat_one (l : List (Int × Int)) : ∀ u ∈ flat l, u.oneCell' = true := by
  intro u hu
  simp only [flat, List.mem_flatMap, encR] at hu
  obtain ⟨x, _, hx⟩ := hu
  simp at hx
  rcases hx with rfl | rfl <;> rfl
theorem flat_get : ∀ (l : List (Int × Int)) (j : Nat) (x : Int × Int), l[j]? = some x → (flat l)[j * 2]? = some (.int .i64 x.1) ∧ (flat l)[j * 2 + 1]? = some (.int .i64 x.2)
  | [], j, x, h => by simp at h
  | y :: l, 0, x, h => by
    simp only [List.getElem?_cons_zero, Option.some.injEq] at h
    subst h
    exact ⟨rfl, rfl⟩
  | y :: l, j + 1, x, h => by
    have := flat_get l j x (by simpa using h)
    have e1 : (j + 1) * 2 = j * 2 + 2 := by omega
    rw [e1]
    exact this
end Go.Proofs.Ytajpkgbgfneacaa
