/- Ranges in memory: two cells each. No program here. -/
import Derived.Test.YtjeljlgjkjeloaaQMem
import Derived.WalkLawsBesides
import Derived.Test.YtjeljlgjkjeloaaProg
import Derived.WalkKit
import Derived.WalkSpells
import Derived.BigQuiet
import Derived.Deep.QuietTactic
import Derived.Lib.Hide
import Derived.Handy
namespace Go.Proofs.Ytjeljlgjkjeloaa
open Go.RowKit

/-- A range's two cells. -/
def encR (x : Int × Int) : List Value := [.int .i64 x.1, .int .i64 x.2]
/-- The cells of ranges. -/
def flat (l : List (Int × Int)) : List Value := l.flatMap encR
theorem flat_length (l : List (Int × Int)) : (flat l).length = l.length * 2 := by
  induction l with
  | nil => rfl
  | cons x l ih => simp only [flat, List.flatMap_cons, List.length_append, List.length_cons] at *; simp only [encR, List.length_cons, List.length_nil]; omega
theorem flat_append (l m : List (Int × Int)) : flat (l ++ m) = flat l ++ flat m := by simp [flat]
theorem flat_one (l : List (Int × Int)) : ∀ u ∈ flat l, u.oneCell' = true := by
  intro u hu
  simp only [flat, List.mem_flatMap, encR] at hu
  obtain ⟨x, _, hx⟩ := hu
  simp at hx
  rcases hx with rfl | rfl <;> rfl
theorem flat_get : ∀ (l : List (Int × Int)) (j : Nat) (x : Int × Int), l[j]? = some x → (flat l)[j * 2]? = some (.int .i64 x.1) ∧ (flat l)[j * 2 + 1]? = some (.int .i64 x.2)
  | [], j, x, h => by simp at h
  | y :: l, 0, x, h => by
    simp only [List.getElem?_cons_zero, Option.some.injEq] at h
    subst h
    exact ⟨rfl, rfl⟩
  | y :: l, j + 1, x, h => by
    have := flat_get l j x (by simpa using h)
    have e1 : (j + 1) * 2 = j * 2 + 2 := by omega
    rw [e1]
    exact this
end Go.Proofs.Ytjeljlgjkjeloaa
/- The domain of runes, the runes of words: what the program's own functions return. -/
namespace Go.Proofs.Ytjeljlgjkjeloaa
open Go.RowKit

def dom (r : Int) : Bool := decide (0 ≤ r ∧ r ≤ 1114111 ∧ (r < 55296 ∨ 57343 < r))
def word (r : Int) : Bool := decide ((97 ≤ r ∧ r ≤ 122) ∨ (65 ≤ r ∧ r ≤ 90) ∨ (48 ≤ r ∧ r ≤ 57) ∨ r = 95)

theorem ret_bool {a b : Bool} (h : a = b) : Ending.returned (.bool a) = .returned (.bool b) := by rw [h]
theorem ret_int {k : IntKind} {a b : Int} (h : a = b) : Ending.returned (.int k a) = .returned (.int k b) := by rw [h]

set_option maxHeartbeats 400000 in
theorem domain_any (r : Int) (w : World) :
    Calls Try.prog 74 #[.int .i64 r] w fun e w' => e = .returned (.bool (dom r)) ∧ w = w' := by
  go_enter Try.func74, Try.ntmps74
  go_wp2
  all_goals go_ret
  all_goals exact ⟨ret_bool (by unfold dom; rw [Bool.eq_iff_iff]; simp; omega), rfl⟩

set_option maxHeartbeats 1000000 in
theorem word_any (r : Int) (w : World) :
    Calls Try.prog 83 #[.int .i64 r] w fun e w' => e = .returned (.bool (word r)) ∧ w = w' := by
  go_enter Try.func83, Try.ntmps83
  go_wp2
  all_goals go_ret
  all_goals exact ⟨ret_bool (by unfold word; rw [Bool.eq_iff_iff]; simp; omega), rfl⟩

end Go.Proofs.Ytjeljlgjkjeloaa
/- runes.Right -/
namespace Go.Proofs.Ytjeljlgjkjeloaa
open Go.RowKit

/-- May a range stand in a class? -/
def okx (x : Int × Int) : Bool := dom x.1 && dom x.2 && decide (x.1 ≤ x.2) && !(decide (x.1 < 55296) && decide (57343 < x.2))
/-- .. and at a place of the list? -/
def okAt (l : List (Int × Int)) (j : Nat) : Bool :=
  match l[j]? with
  | none => true
  | some x => okx x && (j == 0 || match l[j - 1]? with | none => true | some y => decide (y.2 + 1 < x.1))
def clsB (l : List (Int × Int)) : Bool := (List.range l.length).all (okAt l)
def rightB (l : List (Int × Int)) : Bool := decide (l.length ≤ 5000) && clsB l
theorem cls_no {l : List (Int × Int)} {j : Nat} (hj : j < l.length) (h : okAt l j = false) : rightB l = false := by
  unfold rightB clsB
  rw [show (List.range l.length).all (okAt l) = false from by rw [List.all_eq_false]; exact ⟨j, by simpa using hj, by simp [h]⟩, Bool.and_false]
theorem cls_yes {l : List (Int × Int)} (hl : l.length ≤ 5000) (h : ∀ j, j < l.length → okAt l j = true) : rightB l = true := by
  unfold rightB clsB
  rw [decide_eq_true hl, Bool.true_and, List.all_eq_true]
  intro j hj
  exact h j (by simpa using hj)

set_option maxRecDepth 100000 in
set_option maxHeartbeats 2000000 in
theorem right_any (A : Option Addr) (n c : Nat) (l : List (Int × Int)) (w : World) (hr : Reads w w.heap.size 2 A n c (flat l)) :
    Calls Try.prog 62 #[.slice A n c] w fun e w' => e = .returned (.bool (rightB l)) ∧ Below w.heap.size w w' := by
  obtain ⟨B, hB⟩ : ∃ B, B = w.heap.size := ⟨_, rfl⟩
  rw [← hB] at hr
  rw [← hB]
  have hBs : B ≤ w.heap.size := by omega
  have hlen : l.length = n := by have := hr.len; rw [flat_length] at this; omega
  have HLEN := Lib.hid hlen
  have hnc := hr.le
  have hcap := hr.cap
  have HR := Lib.hid hr
  clear hB hlen hr
  by_cases hbig : 5000 < n
  · have HF := Lib.hid (show rightB l = false from by unfold rightB; rw [decide_eq_false (by have := HLEN.out; omega)]; rfl)
    go_enter Try.func62, Try.ntmps62
    go_wp2_with fail
    go_ret
    exact ⟨ret_bool HF.out.symm, Below.refl _ _⟩
  have hn5 : n ≤ 5000 := by omega
  go_enter Try.func62, Try.ntmps62
  go_wp2_with fail
  go_loopw [10] (fun p wr => ∃ i : Nat, i ≤ n ∧ p = .int .i64 i ∧ (∀ j, j < i → okAt l j = true) ∧ Below B w wr) (fun p _ => n - (intOf p).toNat)
  case atStart => exact ⟨0, Nat.zero_le _, rfl, fun j hj => absurd hj (by omega), Below.refl _ _⟩
  case round =>
    obtain ⟨i, hi1, rfl, hok, hbel⟩ := hrel
    have hszr : B ≤ wr.heap.size := by have := hbel.size; omega
    have HOK := Lib.hid hok
    clear hok
    by_cases hlt : i < n
    · obtain ⟨x, hx⟩ : ∃ x, l[i]? = some x := ⟨_, List.getElem?_eq_getElem (by have := HLEN.out; omega)⟩
      obtain ⟨b, off, rfl, hb, hcell⟩ := (HR.out.below hbel).at_ (by omega)
      have hc1 : wr.cell? ⟨b, off + i * 2, none⟩ = some (.int .i64 x.1) := hcell _ _ (flat_get l i x hx).1
      have hc2 : wr.cell? ⟨b, off + i * 2 + 1, none⟩ = some (.int .i64 x.2) := by rw [Nat.add_assoc]; exact hcell _ _ (flat_get l i x hx).2
      have HX := Lib.hid hx
      have HC := Lib.hid hcell
      obtain ⟨x1, x2⟩ := x
      have hbe1 := hbel.alloc hszr (.cells #[.int .i64 x1, .int .i64 x2] 67)
      have HNO := Lib.hid (show okAt l i = false → rightB l = false from fun h => cls_no (by have := HLEN.out; omega) h)
      have HBAD := Lib.hid (show okx (x1, x2) = false → rightB l = false from fun h => HNO.out (by unfold okAt; rw [HX.out]; simp [h]))
      clear hcell hx
      cases hd1 : dom x1 with
      | false =>
        have HF := Lib.hid (HBAD.out (by simp [okx, hd1]))
        go_wp2_with (go_at_call 74; refine (domain_any _ _).mono ?_; rintro e w' ⟨rfl, rfl⟩; rw [hd1])
        go_ret
        exact ⟨ret_bool HF.out.symm, hbe1⟩
      | true =>
      cases hd2 : dom x2 with
      | false =>
        have HF := Lib.hid (HBAD.out (by simp [okx, hd2]))
        go_wp2_with (go_at_call 74; refine (domain_any _ _).mono ?_; rintro e w' ⟨rfl, rfl⟩; first | rw [hd1] | rw [hd2])
        go_ret
        exact ⟨ret_bool HF.out.symm, hbe1⟩
      | true =>
      by_cases g1 : x2 < x1
      · have HF := Lib.hid (HBAD.out (by simp [okx]; omega))
        go_wp2_with (go_at_call 74; refine (domain_any _ _).mono ?_; rintro e w' ⟨rfl, rfl⟩; first | rw [hd1] | rw [hd2])
        go_ret
        exact ⟨ret_bool HF.out.symm, hbe1⟩
      have hx0 : 0 ≤ x1 ∧ x1 ≤ 1114111 := by simp only [dom, decide_eq_true_eq] at hd1; omega
      have hx3 : x2 ≤ 1114111 := by simp only [dom, decide_eq_true_eq] at hd2; omega
      by_cases g2 : x1 < 55296 ∧ 57343 < x2
      · obtain ⟨g2, g3⟩ := g2
        have HF := Lib.hid (HBAD.out (by simp [okx, g2, g3]))
        go_wp2_with (go_at_call 74; refine (domain_any _ _).mono ?_; rintro e w' ⟨rfl, rfl⟩; first | rw [hd1] | rw [hd2])
        go_ret
        exact ⟨ret_bool HF.out.symm, hbe1⟩
      have HOX := Lib.hid (show okx (x1, x2) = true from by simp only [okx, hd1, hd2]; simp; omega)
      obtain ⟨hx0, hx1⟩ := hx0
      have HXX := Lib.hid (show ∀ wq : World, True from fun _ => trivial)
      rcases Nat.eq_zero_or_pos i with h0 | h0
      · subst h0
        rw [Nat.zero_mul, Nat.add_zero] at hc1 hc2
        have HAT := Lib.hid (show okAt l 0 = true from by unfold okAt; rw [HX.out]; simp [HOX.out])
        have hd0 : decide ((0 : Int) < ((0 : Nat) : Int)) = false := rfl
        have hd0' : decide ((0 : Int) < 0) = false := rfl
        by_cases g3 : x1 < 55296
        all_goals
          go_wp2_with (go_at_call 74; refine (domain_any _ _).mono ?_; rintro e w' ⟨rfl, rfl⟩; first | rw [hd1] | rw [hd2])
          go_quiet (fail)
          go_wp2_with fail
          go_roundw
          case rel => exact ⟨1, by omega, by go_num, fun j hj => (show j = 0 from by omega) ▸ HAT.out, bdrewN hbe1 nq⟩
          case measure => simp [intOf]; omega
      · obtain ⟨y, hy⟩ : ∃ y, l[i - 1]? = some y := ⟨_, List.getElem?_eq_getElem (by have := HLEN.out; omega)⟩
        have hc3 : wr.cell? ⟨b, off + ((i - 1) * 2 + 1), none⟩ = some (.int .i64 y.2) := HC.out _ _ (flat_get l (i - 1) y hy).2
        have hyk : okx y = true := by
          have := HOK.out (i - 1) (by omega)
          unfold okAt at this
          rw [hy] at this
          simp only [Bool.and_eq_true] at this
          exact this.1
        have HY := Lib.hid hy
        obtain ⟨y1, y2⟩ := y
        have hy2 : 0 ≤ y2 ∧ y2 ≤ 1114111 := by simp only [okx, dom, Bool.and_eq_true, decide_eq_true_eq] at hyk; omega
        obtain ⟨hy2, hy3⟩ := hy2
        clear hy hyk
        have hd0 : decide ((0 : Int) < (i : Int)) = true := decide_eq_true (by omega)
        have hi0 : ((i : Int) - 1).toNat = i - 1 := by omega
        have hi2 : 0 ≤ (i : Int) - 1 := by omega
        have hi3 : (i : Int) - 1 < n := by omega
        have hc4 : (wr.alloc (.cells #[.int .i64 x1, .int .i64 x2] 67)).cell? ⟨b, off + (i - 1) * 2 + 1, none⟩ = some (.int .i64 y2) := by
          rw [Nat.add_assoc]; exact (World.cell?_alloc_lt wr _ ⟨b, off + ((i - 1) * 2 + 1), none⟩ (by simp; omega)).trans hc3
        have hxc1 : (wr.alloc (.cells #[.int .i64 x1, .int .i64 x2] 67)).cell? ⟨wr.heap.size, 0, none⟩ = some (.int .i64 x1) := by go_simp
        clear hc3
        by_cases g4 : x1 ≤ y2 + 1
        · have HF := Lib.hid (HNO.out (by unfold okAt; rw [HX.out]; simp only [HY.out, HOX.out, Bool.true_and]; simp; omega))
          have hd4 : decide (x1 ≤ y2 + 1) = true := decide_eq_true g4
          by_cases g3 : x1 < 55296
          all_goals
            go_wp2_with (go_at_call 74; refine (domain_any _ _).mono ?_; rintro e w' ⟨rfl, rfl⟩; first | rw [hd1] | rw [hd2])
            go_quiet (fail)
            go_wp2_with fail
            go_ret
            exact ⟨ret_bool HF.out.symm, bdrewN hbe1 nq⟩
        · have HAT := Lib.hid (show okAt l i = true from by unfold okAt; rw [HX.out]; simp only [HY.out, HOX.out, Bool.true_and]; simp; omega)
          have HOR := Lib.hid (show ∀ j, j < i + 1 → okAt l j = true from fun j hj => by
            rcases Nat.lt_or_ge j i with h | h
            · exact HOK.out j h
            · exact (show j = i from by omega) ▸ HAT.out)
          have hd4 : decide (x1 ≤ y2 + 1) = false := decide_eq_false g4
          by_cases g3 : x1 < 55296
          all_goals
            go_wp2_with (go_at_call 74; refine (domain_any _ _).mono ?_; rintro e w' ⟨rfl, rfl⟩; first | rw [hd1] | rw [hd2])
            go_quiet (fail)
            go_wp2_with fail
            go_roundw
            case rel => exact ⟨i + 1, by omega, by go_num, HOR.out, bdrewN hbe1 nq⟩
            case measure => simp [intOf]; omega
    · obtain rfl : i = n := by omega
      have HT := Lib.hid (show rightB l = true from cls_yes (by have := HLEN.out; omega) (fun j hj => HOK.out j (by have := HLEN.out; omega)))
      go_wp2_with fail
      go_ret
      exact ⟨ret_bool HT.out.symm, hbel⟩
end Go.Proofs.Ytjeljlgjkjeloaa
