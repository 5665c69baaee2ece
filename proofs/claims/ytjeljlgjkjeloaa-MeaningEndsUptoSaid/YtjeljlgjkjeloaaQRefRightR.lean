/- heronlaw05.great, Deep: how great a tree is. -/
import Derived.Test.YtjeljlgjkjeloaaQTree
import Derived.Test.YtjeljlgjkjeloaaQFlat
import Derived.Handy
import Derived.BigQuiet
import Derived.Deep.QuietTactic
namespace Go.Proofs.Ytjeljlgjkjeloaa
open Go.RowKit Go.Proofs.Ytjeljlgjkjeloaa.Tr

theorem sizes_take {l : List Ta} {i : Nat} {t : Ta} (h : l[i]? = some t) : sizes (trs (l.take (i + 1))) = sizes (trs (l.take i)) + size t.tr := by
  rw [List.take_add_one, h, trs_map, trs_map, List.map_append]
  have : ∀ a b : List Tr, sizes (a ++ b) = sizes a + sizes b := by
    intro a b
    induction a with
    | nil => simp [sizes]
    | cons x a ih => rw [List.cons_append, sizes, sizes, ih]; omega
  rw [this]; simp [sizes]
theorem sizes_take_le (l : List Ta) (i : Nat) : sizes (trs (l.take i)) ≤ sizes (trs l) := by
  have : ∀ a b : List Tr, sizes (a ++ b) = sizes a + sizes b := by
    intro a b
    induction a with
    | nil => simp [sizes]
    | cons x a ih => rw [List.cons_append, sizes, sizes, ih]; omega
  have e : sizes (trs l) = sizes (trs (l.take i)) + sizes (trs (l.drop i)) := by
    rw [trs_map, trs_map, trs_map, ← this, ← List.map_append, List.take_append_drop]
  omega
theorem Ta.tr_size (k : Int) (r : List (Int × Int)) (ra : Option Addr) (rc : Nat) (a : Int) (l : List Ta) (sa : Option Addr) (sc : Nat) (mn mx : Int) (z : Bool) (i : Int) (s : ByteArray) : size (Ta.mk k r ra rc a l sa sc mn mx z i s).tr = sizes (trs l) + 1 := by
  rw [Ta.tr, size]
/-- The cells of a list's member. -/
theorem RdA.node {w : World} {S : Nat → Prop} {b off c : Nat} {l : List Ta} {j : Nat} {t : Ta} (h : RdA w S 9 (some ⟨b, off, none⟩) l.length c (rowT l)) (ht : l[j]? = some t) {q : Nat} (hq : q < 9) : w.cell? ⟨b, off + (j * 9 + q), none⟩ = t.vals[q]? := by
  have hl : j < l.length := (List.getElem?_eq_some_iff.1 ht).1
  obtain ⟨b', off', e, _, hc⟩ := h.2.2.2.2 (by omega)
  simp only [Option.some.injEq, Addr.mk.injEq, and_true] at e
  obtain ⟨rfl, rfl⟩ := e
  have hg := rowT_get l j q t ht hq
  have hv : q < t.vals.length := by rw [Ta.vals_length]; exact hq
  rw [List.getElem?_eq_getElem hv] at hg ⊢
  exact hc _ _ hg

theorem ar_end {q left : Int} {s0 n sz : Nat} (hq : q = max (left - 1 - (s0 : Int)) (-1)) (hsz : sz = n + 1) (hle : s0 ≤ n) (h : q < 0 ∨ s0 = n) : q = max (left - (sz : Int)) (-1) := by omega
theorem ar_great {q left : Int} {s1 s0 d : Nat} (hq : q = max (left - 1 - (s0 : Int)) (-1)) (hs : s1 = s0 + d) (h0 : 0 ≤ q) : max (q - (d : Int)) (-1) = max (left - 1 - (s1 : Int)) (-1) := by omega
set_option maxRecDepth 100000 in
set_option maxHeartbeats 1000000 in
theorem great_any : ∀ (t : Ta) (S : Nat → Prop) (w : World) (left : Int), RT w S t → (∀ b, S b → b < w.heap.size) → 0 ≤ left → left ≤ 4194304 →
    Calls Try.prog 19 #[t.val, .int .i64 left] w fun e w' => e = .returned (.int .i64 (max (left - size t.tr) (-1))) ∧ Below w.heap.size w w' := by
  intro t
  induction t using Ta.ind with
  | h t ih =>
    intro S w left h hS h0 h1
    cases t with
    | mk k r ra rc ast l sa sc mn mx z ix nm =>
      obtain ⟨_, hN, hL⟩ := h.parts
      have hsz := Ta.tr_size k r ra rc ast l sa sc mn mx z ix nm
      have IH := Lib.hid ih
      have HN := Lib.hid hN
      have HL := Lib.hid hL
      have HS := Lib.hid hS
      have HSZ := Lib.hid hsz
      clear ih hL hS hsz h
      simp only [Ta.val, Ta.vals]
      have hb0 : Below w.heap.size w (w.alloc (.cells #[.int .i64 k, .slice ra r.length rc, .int .i64 ast, .slice sa l.length sc, .int .i64 mn, .int .i64 mx, .bool z, .int .i64 ix, .string nm] 28)) := (Below.refl _ _).alloc (Nat.le_refl _) _
      have hbl := Blk.new w 28 [.int .i64 k, .slice ra r.length rc, .int .i64 ast, .slice sa l.length sc, .int .i64 mn, .int .i64 mx, .bool z, .int .i64 ix, .string nm]
      have hsc := hN.1
      have hsc2 := hN.2.1
      have HB0 := Lib.hid hb0
      have HBL := Lib.hid hbl
      clear hb0 hbl hN
      go_enter Try.func19, Try.ntmps19
      go_wp2_with fail
      generalize w.alloc (.cells #[.int .i64 k, .slice ra r.length rc, .int .i64 ast, .slice sa l.length sc, .int .i64 mn, .int .i64 mx, .bool z, .int .i64 ix, .string nm] 28) = w1 at *
      go_loopw [1, 5] (fun lv iv wr => ∃ (i : Nat) (q : Int), i ≤ l.length ∧ iv = .int .i64 (i : Int) ∧ lv = .int .i64 q ∧ q = max (left - 1 - sizes (trs (l.take i))) (-1) ∧ Below w1.heap.size w1 wr) (fun _ iv _ => l.length - (intOf iv).toNat)
      case atStart => exact ⟨0, left - 1, Nat.zero_le _, rfl, rfl, by simp [trs, sizes]; omega, Below.refl _ _⟩
      case round =>
        obtain ⟨i, q, hi, rfl, rfl, hq, hb⟩ := hrel
        have HB := Lib.hid hb
        have HQ := Lib.hid hq
        have r3 : wr.cell? ⟨w.heap.size, 3, none⟩ = some (.slice sa l.length sc) := (HBL.out.below hb HBL.out.lt).cell 3
        have r9 := (HBL.out.below hb HBL.out.lt).lt
        have hle := sizes_take_le l i
        have HLE := Lib.hid hle
        clear hb
        by_cases hlt : i < l.length
        · have hlt2 : (i : Int) < (l.length : Int) := by omega
          by_cases hq0 : 0 ≤ q
          · have hqb : q ≤ 4194304 := by omega
            clear hq hle
            obtain ⟨b, off, rfl, hSb, _⟩ := HN.out.2.2.2.2 (by omega)
            obtain ⟨u, hu⟩ : ∃ u, l[i]? = some u := ⟨_, List.getElem?_eq_getElem hlt⟩
            have hum : u ∈ l := List.mem_of_getElem? hu
            have hbb := HS.out b hSb
            have hcell : ∀ j, j < 9 → wr.cell? ⟨b, off + i * 9 + j, none⟩ = u.vals[j]? := fun j hj => by
              rw [Nat.add_assoc]
              rw [← HN.out.node hu hj]
              exact ((HB0.out.trans (HB.out.mono HB0.out.size)).cell (p := ⟨b, off + (i * 9 + j), none⟩) hbb)
            have hin := (IH.out u hum S wr q ((HL.out u hum).below HS.out (HB0.out.trans (HB.out.mono HB0.out.size))) (fun b hb => Nat.lt_of_lt_of_le (HS.out b hb) (Nat.le_trans HB0.out.size HB.out.size)) hq0 hqb)
            have hst := sizes_take hu
            cases u with
            | mk k' r' ra' rc' a' l' sa' sc' n' m' z' i' s' =>
            simp only [Ta.vals] at hcell
            simp only [Ta.val, Ta.vals] at hin
            have c0 := hcell 0 (by omega)
            have c1 := hcell 1 (by omega)
            have c2 := hcell 2 (by omega)
            have c3 := hcell 3 (by omega)
            have c4 := hcell 4 (by omega)
            have c5 := hcell 5 (by omega)
            have c6 := hcell 6 (by omega)
            have c7 := hcell 7 (by omega)
            have c8 := hcell 8 (by omega)
            simp only [List.getElem?_cons_zero, List.getElem?_cons_succ, Nat.add_zero] at c0 c1 c2 c3 c4 c5 c6 c7 c8
            have HIN := Lib.hid hin
            have HST := Lib.hid hst
            clear hin hst hcell hu
            go_wp2_with (go_at_call 19; refine HIN.out.mono ?_; rintro e w2 ⟨rfl, hb2⟩; have HB2 := Lib.hid hb2; clear hb2; simp only [])
            go_roundw
            case rel =>
              refine ⟨i + 1, _, by omega, by go_num, rfl, ?_, HB.out.trans (HB2.out.mono HB.out.size)⟩
              exact ar_great HQ.out HST.out hq0
            case measure => simp [intOf]; omega
          · have hq1 : ¬ (0 ≤ q) := hq0
            clear hq
            go_wp2_with fail
            go_ret
            exact ⟨congrArg (fun z => Ending.returned (Value.int .i64 z)) (ar_end HQ.out HSZ.out HLE.out (.inl (by omega))), HB0.out.trans (HB.out.mono HB0.out.size)⟩
        · obtain rfl : i = l.length := by omega
          have hlt2 : ¬ ((l.length : Int) < (l.length : Int)) := by omega
          clear hq
          go_wp2_with fail
          go_ret
          exact ⟨congrArg (fun z => Ending.returned (Value.int .i64 z)) (ar_end HQ.out HSZ.out HLE.out (.inr (by rw [List.take_length]))), HB0.out.trans (HB.out.mono HB0.out.size)⟩
set_option maxHeartbeats 1000000 in
/-- Has a tree more parts than the statements ask of? -/
theorem deep_any (t : Ta) (S : Nat → Prop) (w : World) (h : RT w S t) (hS : ∀ b, S b → b < w.heap.size) :
    Calls Try.prog 8 #[t.val] w fun e w' => e = .returned (.bool (decide (4194304 < size t.tr))) ∧ Below w.heap.size w w' := by
  have hb0 : Below w.heap.size w (w.alloc (.cells t.vals.toArray 28)) := (Below.refl _ _).alloc (Nat.le_refl _) _
  have HB0 := Lib.hid hb0
  have HG := Lib.hid (great_any t S (w.alloc (.cells t.vals.toArray 28)) 4194304 (h.below hS hb0) (fun b hb => Nat.lt_of_lt_of_le (hS b hb) hb0.size) (by decide) (by decide))
  have hd : decide (max (4194304 - (size t.tr : Int)) (-1) < 0) = decide (4194304 < size t.tr) := by rw [decide_eq_decide]; omega
  have HD := Lib.hid hd
  clear h hS hd hb0
  cases t with
  | mk k r ra rc ast l sa sc mn mx z ix nm =>
  generalize size (Ta.mk k r ra rc ast l sa sc mn mx z ix nm).tr = q at *
  simp only [Ta.val, Ta.vals] at HG HB0 ⊢
  go_enter Try.func8, Try.ntmps8
  go_wp2_with (go_at_call 19; refine HG.out.mono ?_; rintro e w2 ⟨rfl, hb2⟩; have HB2 := Lib.hid hb2; clear hb2; simp only [])
  go_ret
  exact ⟨ret_bool (by first | exact HD.out | simpa using HD.out), HB0.out.trans (HB2.out.mono HB0.out.size)⟩

/-! ### Weight: some number -/
end Go.Proofs.Ytjeljlgjkjeloaa
/- heronref01: Right. -/
namespace Go.Proofs.Ytjeljlgjkjeloaa
open Go.RowKit

set_option maxHeartbeats 400000 in
theorem refDomain_any (r : Int) (w : World) :
    Calls Try.prog 82 #[.int .i64 r] w fun e w' => e = .returned (.bool (dom r)) ∧ w = w' := by
  go_enter Try.func82, Try.ntmps82
  go_wp2
  all_goals go_ret
  all_goals exact ⟨ret_bool (by unfold dom; rw [Bool.eq_iff_iff]; simp; omega), rfl⟩

set_option maxRecDepth 100000 in
set_option maxHeartbeats 4000000 in
theorem refRight_any (A : Option Addr) (n c B : Nat) (l : List (Int × Int)) (w : World) (hr : Reads w B 2 A n c (flat l)) :
    Calls Try.prog 69 #[.slice A n c] w fun e w' => e = .returned (.bool (rightB l)) ∧ ∃ m, w.drewN m = w' := by
  have hlen : l.length = n := by have := hr.len; rw [flat_length] at this; omega
  have HLEN := Lib.hid hlen
  have hnc := hr.le
  have hcap := hr.cap
  have HR := Lib.hid hr
  clear hlen hr
  by_cases hbig : 5000 < n
  · have HF := Lib.hid (show rightB l = false from by unfold rightB; rw [decide_eq_false (by have := HLEN.out; omega)]; rfl)
    go_enter Try.func69, Try.ntmps69
    go_wp2_with fail
    go_ret
    exact ⟨ret_bool HF.out.symm, 0, rfl⟩
  have hn5 : n ≤ 5000 := by omega
  go_enter Try.func69, Try.ntmps69
  go_wp2_with fail
  go_loopw [3] (fun p wr => ∃ i : Nat, i ≤ n ∧ p = .int .i64 i ∧ (∀ j, j < i → okAt l j = true) ∧ ∃ m, w.drewN m = wr) (fun p _ => n - (intOf p).toNat)
  case atStart => exact ⟨0, Nat.zero_le _, rfl, fun j hj => absurd hj (by omega), 0, rfl⟩
  case round =>
    obtain ⟨i, hi1, rfl, hok, m, rfl⟩ := hrel
    have HOK := Lib.hid hok
    clear hok
    by_cases hlt : i < n
    · obtain ⟨x, hx⟩ : ∃ x, l[i]? = some x := ⟨_, List.getElem?_eq_getElem (by have := HLEN.out; omega)⟩
      obtain ⟨b, off, rfl, hb, hcell⟩ := HR.out.at_ (by omega)
      have hc1 : w.cell? ⟨b, off + i * 2, none⟩ = some (.int .i64 x.1) := hcell _ _ (flat_get l i x hx).1
      have hc2 : w.cell? ⟨b, off + i * 2 + 1, none⟩ = some (.int .i64 x.2) := by rw [Nat.add_assoc]; exact hcell _ _ (flat_get l i x hx).2
      have HX := Lib.hid hx
      have HC := Lib.hid hcell
      obtain ⟨x1, x2⟩ := x
      have HNO := Lib.hid (show okAt l i = false → rightB l = false from fun h => cls_no (by have := HLEN.out; omega) h)
      have HBAD := Lib.hid (show okx (x1, x2) = false → rightB l = false from fun h => HNO.out (by unfold okAt; rw [HX.out]; simp [h]))
      clear hcell hx
      cases hd1 : dom x1 with
      | false =>
        have HF := Lib.hid (HBAD.out (by simp [okx, hd1]))
        go_wp2_with (go_at_call 82; refine (refDomain_any _ _).mono ?_; rintro e w' ⟨rfl, rfl⟩; first | rw [hd1] | skip)
        go_quiet (fail)
        go_wp2_with fail
        go_ret
        exact ⟨ret_bool HF.out.symm, m + nq, by first | rfl | rw [World.drewN_drewN]⟩
      | true =>
      cases hd2 : dom x2 with
      | false =>
        have HF := Lib.hid (HBAD.out (by simp [okx, hd2]))
        go_wp2_with (go_at_call 82; refine (refDomain_any _ _).mono ?_; rintro e w' ⟨rfl, rfl⟩; first | rw [hd1] | rw [hd2])
        go_quiet (fail)
        go_wp2_with fail
        go_ret
        exact ⟨ret_bool HF.out.symm, m + nq, by first | rfl | rw [World.drewN_drewN]⟩
      | true =>
      have hx0 : 0 ≤ x1 ∧ x1 ≤ 1114111 := by simp only [dom, decide_eq_true_eq] at hd1; omega
      have hx3 : 0 ≤ x2 ∧ x2 ≤ 1114111 := by simp only [dom, decide_eq_true_eq] at hd2; omega
      obtain ⟨hx0, hx1⟩ := hx0
      obtain ⟨hx2, hx3⟩ := hx3
      by_cases g1 : x2 < x1
      · have HF := Lib.hid (HBAD.out (by simp [okx]; omega))
        have hA : decide (x2 < x1) = true := decide_eq_true g1
        go_wp2_with (go_at_call 82; refine (refDomain_any _ _).mono ?_; rintro e w' ⟨rfl, rfl⟩; first | rw [hd1] | rw [hd2])
        go_quiet (fail)
        go_wp2_with fail
        go_ret
        exact ⟨ret_bool HF.out.symm, m + nq, by first | rfl | rw [World.drewN_drewN]⟩
      have hA : decide (x2 < x1) = false := decide_eq_false g1
      by_cases g2 : x1 ≤ 55295 ∧ 57344 ≤ x2
      · obtain ⟨g2, g3⟩ := g2
        have HF := Lib.hid (HBAD.out (by simp [okx]; omega))
        have hB : decide (x1 ≤ 55295) = true := decide_eq_true g2
        have hC : decide (57344 ≤ x2) = true := decide_eq_true g3
        go_wp2_with (go_at_call 82; refine (refDomain_any _ _).mono ?_; rintro e w' ⟨rfl, rfl⟩; first | rw [hd1] | rw [hd2])
        go_quiet (fail)
        go_wp2_with fail
        go_ret
        exact ⟨ret_bool HF.out.symm, m + nq, by first | rfl | rw [World.drewN_drewN]⟩
      have HOX := Lib.hid (show okx (x1, x2) = true from by
        simp only [dom, decide_eq_true_eq] at hd1 hd2
        simp [okx, dom]; omega)
      have hd1' := hd1
      rcases Nat.eq_zero_or_pos i with h0 | h0
      · subst h0
        rw [Nat.zero_mul, Nat.add_zero] at hc1 hc2
        have HAT := Lib.hid (show okAt l 0 = true from by unfold okAt; rw [HX.out]; simp [HOX.out])
        have hd0 : decide ((0 : Int) < ((0 : Nat) : Int)) = false := rfl
        have hd0' : decide ((0 : Int) < 0) = false := rfl
        by_cases g3 : x1 ≤ 55295
        case' pos => have hB : decide (x1 ≤ 55295) = true := decide_eq_true g3; have hC : decide (57344 ≤ x2) = false := decide_eq_false (by omega)
        case' neg => have hB : decide (x1 ≤ 55295) = false := decide_eq_false g3
        all_goals
          go_wp2_with (go_at_call 82; refine (refDomain_any _ _).mono ?_; rintro e w' ⟨rfl, rfl⟩; first | rw [hd1] | rw [hd2])
          go_quiet (fail)
          rw [World.drewN_drewN]
          obtain ⟨q0, hq0⟩ : ∃ q, q = m + nq := ⟨_, rfl⟩
          rw [← hq0]
          clear hq0
          go_wp2_with fail
          go_quiet (fail)
          go_wp2_with fail
          go_roundw
          case rel => exact ⟨1, by omega, by go_num, fun j hj => (show j = 0 from by omega) ▸ HAT.out, q0 + nq, by first | rfl | rw [World.drewN_drewN]⟩
          case measure => simp [intOf]; omega
      · obtain ⟨y, hy⟩ : ∃ y, l[i - 1]? = some y := ⟨_, List.getElem?_eq_getElem (by have := HLEN.out; omega)⟩
        have hc3 : w.cell? ⟨b, off + (i - 1) * 2 + 1, none⟩ = some (.int .i64 y.2) := by rw [Nat.add_assoc]; exact HC.out _ _ (flat_get l (i - 1) y hy).2
        have hyk : okx y = true := by
          have := HOK.out (i - 1) (by omega)
          unfold okAt at this
          rw [hy] at this
          simp only [Bool.and_eq_true] at this
          exact this.1
        have HY := Lib.hid hy
        obtain ⟨y1, y2⟩ := y
        have hy2 : 0 ≤ y2 ∧ y2 ≤ 1114111 := by simp only [okx, dom, Bool.and_eq_true, decide_eq_true_eq] at hyk; omega
        obtain ⟨hy2, hy3⟩ := hy2
        clear hy hyk
        have hd0 : decide ((0 : Int) < (i : Int)) = true := decide_eq_true (by omega)
        have hi0 : ((i : Int) - 1).toNat = i - 1 := by omega
        have hi2 : 0 ≤ (i : Int) - 1 := by omega
        have hi3 : (i : Int) - 1 < n := by omega
        have hw1 : IntKind.i64.wrap ((i : Int) - 1) = (i : Int) - 1 := IntWalk.i64_in _ (by omega)
        have hw2 : IntKind.i64.wrap (y2 + 2) = y2 + 2 := IntWalk.i64_in _ (by omega)
        have HOR := Lib.hid (show okAt l i = true → ∀ j, j < i + 1 → okAt l j = true from fun hat j hj => by
            rcases Nat.lt_or_ge j i with h | h
            · exact HOK.out j h
            · exact (show j = i from by omega) ▸ hat)
        by_cases g4 : x1 < y2 + 2
        · have HF := Lib.hid (HNO.out (by unfold okAt; rw [HX.out]; simp only [HY.out, HOX.out, Bool.true_and]; simp; omega))
          have hd4 : decide (x1 < y2 + 2) = true := decide_eq_true g4
          rcases (show x1 ≤ 55295 ∨ x1 = 57344 ∨ (55295 < x1 ∧ x1 ≠ 57344) from by omega) with g3 | g3 | ⟨g3, g5⟩
          · have hB : decide (x1 ≤ 55295) = true := decide_eq_true g3
            have hC : decide (57344 ≤ x2) = false := decide_eq_false (by omega)
            have hE : (x1 == 57344) = false := beq_eq_false_iff_ne.2 (by omega)
            go_wp2_with (go_at_call 82; refine (refDomain_any _ _).mono ?_; rintro e w' ⟨rfl, rfl⟩; first | rw [hd1] | rw [hd2])
            go_quiet (fail)
            rw [World.drewN_drewN]
            obtain ⟨q0, hq0⟩ : ∃ q, q = m + nq := ⟨_, rfl⟩
            rw [← hq0]
            clear hq0
            go_wp2_with fail
            go_quiet (fail)
            go_wp2_with fail
            go_ret
            exact ⟨ret_bool HF.out.symm, q0 + nq, by first | rfl | rw [World.drewN_drewN]⟩
          · have hB : decide (x1 ≤ 55295) = false := decide_eq_false (by omega)
            have hE : (x1 == 57344) = true := beq_iff_eq.2 g3
            have hF : (y2 == 55295) = false := beq_eq_false_iff_ne.2 (by omega)
            have HE := Lib.hid g3
            clear g3
            go_wp2_with (go_at_call 82; refine (refDomain_any _ _).mono ?_; rintro e w' ⟨rfl, rfl⟩; first | rw [hd1] | rw [hd2])
            go_quiet (fail)
            rw [World.drewN_drewN]
            obtain ⟨q0, hq0⟩ : ∃ q, q = m + nq := ⟨_, rfl⟩
            rw [← hq0]
            clear hq0
            go_wp2_with fail
            go_quiet (fail)
            go_wp2_with fail
            go_ret
            exact ⟨ret_bool HF.out.symm, q0 + nq, by first | rfl | rw [World.drewN_drewN]⟩
          · have hB : decide (x1 ≤ 55295) = false := decide_eq_false (by omega)
            have hE : (x1 == 57344) = false := beq_eq_false_iff_ne.2 g5
            clear g5
            go_wp2_with (go_at_call 82; refine (refDomain_any _ _).mono ?_; rintro e w' ⟨rfl, rfl⟩; first | rw [hd1] | rw [hd2])
            go_quiet (fail)
            rw [World.drewN_drewN]
            obtain ⟨q0, hq0⟩ : ∃ q, q = m + nq := ⟨_, rfl⟩
            rw [← hq0]
            clear hq0
            go_wp2_with fail
            go_quiet (fail)
            go_wp2_with fail
            go_ret
            exact ⟨ret_bool HF.out.symm, q0 + nq, by first | rfl | rw [World.drewN_drewN]⟩
        · have HAT := Lib.hid (HOR.out (show okAt l i = true from by unfold okAt; rw [HX.out]; simp only [HY.out, HOX.out, Bool.true_and]; simp; omega))
          have hd4 : decide (x1 < y2 + 2) = false := decide_eq_false g4
          by_cases g3 : x1 ≤ 55295
          case' pos => have hB : decide (x1 ≤ 55295) = true := decide_eq_true g3; have hC : decide (57344 ≤ x2) = false := decide_eq_false (by omega)
          case' neg => have hB : decide (x1 ≤ 55295) = false := decide_eq_false g3
          all_goals
            go_wp2_with (go_at_call 82; refine (refDomain_any _ _).mono ?_; rintro e w' ⟨rfl, rfl⟩; first | rw [hd1] | rw [hd2])
            go_quiet (fail)
            rw [World.drewN_drewN]
            obtain ⟨q0, hq0⟩ : ∃ q, q = m + nq := ⟨_, rfl⟩
            rw [← hq0]
            clear hq0
            go_wp2_with fail
            go_quiet (fail)
            go_wp2_with fail
            go_roundw
            case rel => exact ⟨i + 1, by omega, by go_num, HAT.out, q0 + nq, by first | rfl | rw [World.drewN_drewN]⟩
            case measure => simp [intOf]; omega
    · obtain rfl : i = n := by omega
      have HT := Lib.hid (show rightB l = true from cls_yes (by have := HLEN.out; omega) (fun j hj => HOK.out j (by have := HLEN.out; omega)))
      go_wp2_with fail
      go_ret
      exact ⟨ret_bool HT.out.symm, m, rfl⟩
end Go.Proofs.Ytjeljlgjkjeloaa
