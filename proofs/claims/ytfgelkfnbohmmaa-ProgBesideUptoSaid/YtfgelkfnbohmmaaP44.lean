/- heronref01: Right. -/
import Derived.Test.YtfgelkfnbohmmaaP02
namespace Go.Proofs.Ytfgelkfnbohmmaa
open Go.RowKit
set_option maxHeartbeats 400000 in
theorem refDomain_any (r : Int) (w : World) :
    Calls Try.prog 77 #[.int .i64 r] w fun e w' => e = .returned (.bool (dom r)) ∧ w = w' := by
  go_enter Try.func77, Try.ntmps77
  go_wp2
  all_goals go_ret
  all_goals exact ⟨ret_bool (by unfold dom; rw [Bool.eq_iff_iff]; simp; omega), rfl⟩
set_option maxRecDepth 100000 in
set_option maxHeartbeats 4000000 in
theorem refRight_any (A : Option Addr) (n c B : Nat) (l : List (Int × Int)) (w : World) (hr : Reads w B 2 A n c (flat l)) :
    Calls Try.prog 40 #[.slice A n c] w fun e w' => e = .returned (.bool (rightB l)) ∧ ∃ m, w.drewN m = w' := by
  have hlen : l.length = n := by have := hr.len; rw [flat_length] at this; omega
  have HLEN := Lib.hid hlen
  have hnc := hr.le
  have hcap := hr.cap
  have HR := Lib.hid hr
  clear hlen hr
  by_cases hbig : 5000 < n
  · have HF := Lib.hid (show rightB l = false from by unfold rightB; rw [decide_eq_false (by have := HLEN.out; omega)]; rfl)
    go_enter Try.func40, Try.ntmps40
    go_wp2_with fail
    go_ret
    exact ⟨ret_bool HF.out.symm, 0, rfl⟩
  have hn5 : n ≤ 5000 := by omega
  go_enter Try.func40, Try.ntmps40
  go_wp2_with fail
  go_loopw [3] (fun p wr => ∃ i : Nat, i ≤ n ∧ p = .int .i64 i ∧ (∀ j, j < i → okAt l j = true) ∧ ∃ m, w.drewN m = wr) (fun p _ => n - (intOf p).toNat)
  case atStart => exact ⟨0, Nat.zero_le _, rfl, fun j hj => absurd hj (by omega), 0, rfl⟩
  case round =>
    obtain ⟨i, hi1, rfl, hok, m, rfl⟩ := hrel
    have HOK := Lib.hid hok
    clear hok
    by_cases hlt : i < n
    · obtain ⟨x, hx⟩ : ∃ x, l[i]? = some x := ⟨_, List.getElem?_eq_getElem (by have := HLEN.out; omega)⟩
      obtain ⟨b, off, rfl, hb, hcell⟩ := HR.out.at_ (by omega)
      have hc1 : w.cell? ⟨b, off + i * 2, none⟩ = some (.int .i64 x.1) := hcell _ _ (flat_get l i x hx).1
      have hc2 : w.cell? ⟨b, off + i * 2 + 1, none⟩ = some (.int .i64 x.2) := by rw [Nat.add_assoc]; exact hcell _ _ (flat_get l i x hx).2
      have HX := Lib.hid hx
      have HC := Lib.hid hcell
      obtain ⟨x1, x2⟩ := x
      have HNO := Lib.hid (show okAt l i = false → rightB l = false from fun h => cls_no (by have := HLEN.out; omega) h)
      have HBAD := Lib.hid (show okx (x1, x2) = false → rightB l = false from fun h => HNO.out (by unfold okAt; rw [HX.out]; simp [h]))
      clear hcell hx
      cases hd1 : dom x1 with
      | false =>
        have HF := Lib.hid (HBAD.out (by simp [okx, hd1]))
        go_wp2_with (go_at_call 77; refine (refDomain_any _ _).mono ?_; rintro e w' ⟨rfl, rfl⟩; first | rw [hd1] | skip)
        go_quiet (fail)
        go_wp2_with fail
        go_ret
        exact ⟨ret_bool HF.out.symm, m + nq, by first | rfl | rw [World.drewN_drewN]⟩
      | true =>
      cases hd2 : dom x2 with
      | false =>
        have HF := Lib.hid (HBAD.out (by simp [okx, hd2]))
        go_wp2_with (go_at_call 77; refine (refDomain_any _ _).mono ?_; rintro e w' ⟨rfl, rfl⟩; first | rw [hd1] | rw [hd2])
        go_quiet (fail)
        go_wp2_with fail
        go_ret
        exact ⟨ret_bool HF.out.symm, m + nq, by first | rfl | rw [World.drewN_drewN]⟩
      | true =>
      have hx0 : 0 ≤ x1 ∧ x1 ≤ 1114111 := by simp only [dom, decide_eq_true_eq] at hd1; omega
      have hx3 : 0 ≤ x2 ∧ x2 ≤ 1114111 := by simp only [dom, decide_eq_true_eq] at hd2; omega
      obtain ⟨hx0, hx1⟩ := hx0
      obtain ⟨hx2, hx3⟩ := hx3
      by_cases g1 : x2 < x1
      · have HF := Lib.hid (HBAD.out (by simp [okx]; omega))
        have hA : decide (x2 < x1) = true := decide_eq_true g1
        go_wp2_with (go_at_call 77; refine (refDomain_any _ _).mono ?_; rintro e w' ⟨rfl, rfl⟩; first | rw [hd1] | rw [hd2])
        go_quiet (fail)
        go_wp2_with fail
        go_ret
        exact ⟨ret_bool HF.out.symm, m + nq, by first | rfl | rw [World.drewN_drewN]⟩
      have hA : decide (x2 < x1) = false := decide_eq_false g1
      by_cases g2 : x1 ≤ 55295 ∧ 57344 ≤ x2
      · obtain ⟨g2, g3⟩ := g2
        have HF := Lib.hid (HBAD.out (by simp [okx]; omega))
        have hB : decide (x1 ≤ 55295) = true := decide_eq_true g2
        have hC : decide (57344 ≤ x2) = true := decide_eq_true g3
        go_wp2_with (go_at_call 77; refine (refDomain_any _ _).mono ?_; rintro e w' ⟨rfl, rfl⟩; first | rw [hd1] | rw [hd2])
        go_quiet (fail)
        go_wp2_with fail
        go_ret
        exact ⟨ret_bool HF.out.symm, m + nq, by first | rfl | rw [World.drewN_drewN]⟩
      have HOX := Lib.hid (show okx (x1, x2) = true from by
        simp only [dom, decide_eq_true_eq] at hd1 hd2
        simp [okx, dom]; omega)
      have hd1' := hd1
      rcases Nat.eq_zero_or_pos i with h0 | h0
      · subst h0
        rw [Nat.zero_mul, Nat.add_zero] at hc1 hc2
        have HAT := Lib.hid (show okAt l 0 = true from by unfold okAt; rw [HX.out]; simp [HOX.out])
        have hd0 : decide ((0 : Int) < ((0 : Nat) : Int)) = false := rfl
        have hd0' : decide ((0 : Int) < 0) = false := rfl
        by_cases g3 : x1 ≤ 55295
        case' pos => have hB : decide (x1 ≤ 55295) = true := decide_eq_true g3; have hC : decide (57344 ≤ x2) = false := decide_eq_false (by omega)
        case' neg => have hB : decide (x1 ≤ 55295) = false := decide_eq_false g3
        all_goals
          go_wp2_with (go_at_call 77; refine (refDomain_any _ _).mono ?_; rintro e w' ⟨rfl, rfl⟩; first | rw [hd1] | rw [hd2])
          go_quiet (fail)
          rw [World.drewN_drewN]
          obtain ⟨q0, hq0⟩ : ∃ q, q = m + nq := ⟨_, rfl⟩
          rw [← hq0]
          clear hq0
          go_wp2_with fail
          go_quiet (fail)
          go_wp2_with fail
          go_roundw
          case rel => exact ⟨1, by omega, by go_num, fun j hj => (show j = 0 from by omega) ▸ HAT.out, q0 + nq, by first | rfl | rw [World.drewN_drewN]⟩
          case measure => simp [intOf]; omega
      · obtain ⟨y, hy⟩ : ∃ y, l[i - 1]? = some y := ⟨_, List.getElem?_eq_getElem (by have := HLEN.out; omega)⟩
        have hc3 : w.cell? ⟨b, off + (i - 1) * 2 + 1, none⟩ = some (.int .i64 y.2) := by rw [Nat.add_assoc]; exact HC.out _ _ (flat_get l (i - 1) y hy).2
        have hyk : okx y = true := by
          have := HOK.out (i - 1) (by omega)
          unfold okAt at this
          rw [hy] at this
          simp only [Bool.and_eq_true] at this
          exact this.1
        have HY := Lib.hid hy
        obtain ⟨y1, y2⟩ := y
        have hy2 : 0 ≤ y2 ∧ y2 ≤ 1114111 := by simp only [okx, dom, Bool.and_eq_true, decide_eq_true_eq] at hyk; omega
        obtain ⟨hy2, hy3⟩ := hy2
        clear hy hyk
        have hd0 : decide ((0 : Int) < (i : Int)) = true := decide_eq_true (by omega)
        have hi0 : ((i : Int) - 1).toNat = i - 1 := by omega
        have hi2 : 0 ≤ (i : Int) - 1 := by omega
        have hi3 : (i : Int) - 1 < n := by omega
        have hw1 : IntKind.i64.wrap ((i : Int) - 1) = (i : Int) - 1 := IntWalk.i64_in _ (by omega)
        have hw2 : IntKind.i64.wrap (y2 + 2) = y2 + 2 := IntWalk.i64_in _ (by omega)
        have HOR := Lib.hid (show okAt l i = true → ∀ j, j < i + 1 → okAt l j = true from fun hat j hj => by
            rcases Nat.lt_or_ge j i with h | h
            · exact HOK.out j h
            · exact (show j = i from by omega) ▸ hat)
        by_cases g4 : x1 < y2 + 2
        · have HF := Lib.hid (HNO.out (by unfold okAt; rw [HX.out]; simp only [HY.out, HOX.out, Bool.true_and]; simp; omega))
          have hd4 : decide (x1 < y2 + 2) = true := decide_eq_true g4
          rcases (show x1 ≤ 55295 ∨ x1 = 57344 ∨ (55295 < x1 ∧ x1 ≠ 57344) from by omega) with g3 | g3 | ⟨g3, g5⟩
          · have hB : decide (x1 ≤ 55295) = true := decide_eq_true g3
            have hC : decide (57344 ≤ x2) = false := decide_eq_false (by omega)
            have hE : (x1 == 57344) = false := beq_eq_false_iff_ne.2 (by omega)
            go_wp2_with (go_at_call 77; refine (refDomain_any _ _).mono ?_; rintro e w' ⟨rfl, rfl⟩; first | rw [hd1] | rw [hd2])
            go_quiet (fail)
            rw [World.drewN_drewN]
            obtain ⟨q0, hq0⟩ : ∃ q, q = m + nq := ⟨_, rfl⟩
            rw [← hq0]
            clear hq0
            go_wp2_with fail
            go_quiet (fail)
            go_wp2_with fail
            go_ret
            exact ⟨ret_bool HF.out.symm, q0 + nq, by first | rfl | rw [World.drewN_drewN]⟩
          · have hB : decide (x1 ≤ 55295) = false := decide_eq_false (by omega)
            have hE : (x1 == 57344) = true := beq_iff_eq.2 g3
            have hF : (y2 == 55295) = false := beq_eq_false_iff_ne.2 (by omega)
            have HE := Lib.hid g3
            clear g3
            go_wp2_with (go_at_call 77; refine (refDomain_any _ _).mono ?_; rintro e w' ⟨rfl, rfl⟩; first | rw [hd1] | rw [hd2])
            go_quiet (fail)
            rw [World.drewN_drewN]
            obtain ⟨q0, hq0⟩ : ∃ q, q = m + nq := ⟨_, rfl⟩
            rw [← hq0]
            clear hq0
            go_wp2_with fail
            go_quiet (fail)
            go_wp2_with fail
            go_ret
            exact ⟨ret_bool HF.out.symm, q0 + nq, by first | rfl | rw [World.drewN_drewN]⟩
          · have hB : decide (x1 ≤ 55295) = false := decide_eq_false (by omega)
            have hE : (x1 == 57344) = false := beq_eq_false_iff_ne.2 g5
            clear g5
            go_wp2_with (go_at_call 77; refine (refDomain_any _ _).mono ?_; rintro e w' ⟨rfl, rfl⟩; first | rw [hd1] | rw [hd2])
            go_quiet (fail)
            rw [World.drewN_drewN]
            obtain ⟨q0, hq0⟩ : ∃ q, q = m + nq := ⟨_, rfl⟩
            rw [← hq0]
            clear hq0
            go_wp2_with fail
            go_quiet (fail)
            go_wp2_with fail
            go_ret
            exact ⟨ret_bool HF.out.symm, q0 + nq, by first | rfl | rw [World.drewN_drewN]⟩
        · have HAT := Lib.hid (HOR.out (show okAt l i = true from by unfold okAt; rw [HX.out]; simp only [HY.out, HOX.out, Bool.true_and]; simp; omega))
          have hd4 : decide (x1 < y2 + 2) = false := decide_eq_false g4
          by_cases g3 : x1 ≤ 55295
          case' pos => have hB : decide (x1 ≤ 55295) = true := decide_eq_true g3; have hC : decide (57344 ≤ x2) = false := decide_eq_false (by omega)
          case' neg => have hB : decide (x1 ≤ 55295) = false := decide_eq_false g3
          all_goals
            go_wp2_with (go_at_call 77; refine (refDomain_any _ _).mono ?_; rintro e w' ⟨rfl, rfl⟩; first | rw [hd1] | rw [hd2])
            go_quiet (fail)
            rw [World.drewN_drewN]
            obtain ⟨q0, hq0⟩ : ∃ q, q = m + nq := ⟨_, rfl⟩
            rw [← hq0]
            clear hq0
            go_wp2_with fail
            go_quiet (fail)
            go_wp2_with fail
            go_roundw
            case rel => exact ⟨i + 1, by omega, by go_num, HAT.out, q0 + nq, by first | rfl | rw [World.drewN_drewN]⟩
            case measure => simp [intOf]; omega
    · obtain rfl : i = n := by omega
      have HT := Lib.hid (show rightB l = true from cls_yes (by have := HLEN.out; omega) (fun j hj => HOK.out j (by have := HLEN.out; omega)))
      go_wp2_with fail
      go_ret
      exact ⟨ret_bool HT.out.symm, m, rfl⟩
end Go.Proofs.Ytfgelkfnbohmmaa
namespace Go.Proofs.Ytfgelkfnbohmmaa
open Go.RowKit
set_option maxHeartbeats 1000000 in
theorem refIn_any (A : Option Addr) (n c B : Nat) (r : Int) (l : List (Int × Int)) (w : World) (hr : Reads w B 2 A n c (flat l)) :
    Calls Try.prog 83 #[.slice A n c, .int .i64 r] w fun e w' => e = .returned (.bool (memB l r)) ∧ w = w' := by
  have hlen : l.length = n := by have := hr.len; rw [flat_length] at this; omega
  have HLEN := Lib.hid hlen
  have hnc := hr.le
  have hcap := hr.cap
  have HR := Lib.hid hr
  clear hlen hr
  go_enter Try.func83, Try.ntmps83
  go_wp2_with fail
  go_loopw [5] (fun p wr => ∃ i : Nat, i ≤ n ∧ p = .int .i64 i ∧ (∀ x ∈ l.take i, decide (x.1 ≤ r ∧ r ≤ x.2) = false) ∧ w = wr) (fun p _ => n - (intOf p).toNat)
  case atStart => exact ⟨0, Nat.zero_le _, rfl, by simp, rfl⟩
  case round =>
    obtain ⟨i, hi1, rfl, hno, rfl⟩ := hrel
    have HNO := Lib.hid hno
    clear hno
    by_cases hlt : i < n
    · obtain ⟨x, hx⟩ : ∃ x, l[i]? = some x := ⟨_, List.getElem?_eq_getElem (by have := HLEN.out; omega)⟩
      obtain ⟨b, off, rfl, hb, hcell⟩ := HR.out.at_ (by omega)
      have hc1 : w.cell? ⟨b, off + i * 2, none⟩ = some (.int .i64 x.1) := hcell _ _ (flat_get l i x hx).1
      have hc2 : w.cell? ⟨b, off + i * 2 + 1, none⟩ = some (.int .i64 x.2) := by rw [Nat.add_assoc]; exact hcell _ _ (flat_get l i x hx).2
      have HX := Lib.hid hx
      obtain ⟨x1, x2⟩ := x
      clear hcell hx
      have HST := Lib.hid (show decide (x1 ≤ r ∧ r ≤ x2) = false → ∀ y ∈ l.take (i + 1), decide (y.1 ≤ r ∧ r ≤ y.2) = false from fun hd y hy => by
          rw [List.take_add_one, HX.out] at hy
          simp only [Option.toList_some, List.mem_append, List.mem_singleton] at hy
          rcases hy with hy | rfl
          · exact HNO.out y hy
          · exact hd)
      have HYES := Lib.hid (show decide (x1 ≤ r ∧ r ≤ x2) = true → memB l r = true from fun hd => List.any_eq_true.2 ⟨(x1, x2), List.mem_of_getElem? HX.out, hd⟩)
      by_cases h1 : x1 ≤ r
      · have hd1 : decide (x1 ≤ r) = true := decide_eq_true h1
        by_cases h2 : r ≤ x2
        · have hd2 : decide (r ≤ x2) = true := decide_eq_true h2
          have HM := Lib.hid (HYES.out (by simp [h1, h2]))
          go_wp2_with fail
          go_ret
          exact ⟨ret_bool HM.out.symm, rfl⟩
        · have hd2 : decide (r ≤ x2) = false := decide_eq_false h2
          go_wp2_with fail
          go_roundw
          case rel => exact ⟨i + 1, by omega, by go_num, HST.out (by simp; omega), trivial⟩
          case measure => simp [intOf]; omega
      · have hd1 : decide (x1 ≤ r) = false := decide_eq_false h1
        go_wp2_with fail
        go_roundw
        case rel => exact ⟨i + 1, by omega, by go_num, HST.out (by simp; omega), trivial⟩
        case measure => simp [intOf]; omega
    · obtain rfl : i = n := by omega
      have HM := Lib.hid (show memB l r = false from by
        have := HNO.out
        rw [List.take_of_length_le (by have := HLEN.out; omega)] at this
        unfold memB
        rw [List.any_eq_false]
        intro x hx
        rw [this x hx]; simp)
      go_wp2_with fail
      go_ret
      exact ⟨ret_bool HM.out.symm, rfl⟩
set_option maxHeartbeats 1000000 in
theorem refHas_any (A : Option Addr) (n c B : Nat) (r : Int) (l : List (Int × Int)) (w : World) (hr : Reads w B 2 A n c (flat l)) :
    Calls Try.prog 52 #[.slice A n c, .int .i64 r] w fun e w' => e = .returned (.bool (rightB l && memB l r)) ∧ ∃ m, w.drewN m = w' := by
  have HRI := Lib.hid (refRight_any A n c B l w hr)
  have HR := Lib.hid hr
  clear hr
  go_enter Try.func52, Try.ntmps52
  go_wp2_with fail
  refine HRI.out.mono ?_
  rintro e w1 ⟨rfl, m, rfl⟩
  have HIN := Lib.hid (refIn_any A n c B r l (w.drewN m) (HR.out.drewN m))
  clear HRI
  cases hd : rightB l with
  | false =>
    simp only []
    go_wp2_with fail
    go_ret
    exact ⟨ret_bool (by rw [hd]; rfl), m, rfl⟩
  | true =>
    simp only []
    go_wp2_with fail
    refine HIN.out.mono ?_
    rintro e w2 ⟨rfl, rfl⟩
    go_wp2_with fail
    go_ret
    exact ⟨ret_bool (by rw [hd]; rfl), m, rfl⟩
end Go.Proofs.Ytfgelkfnbohmmaa
