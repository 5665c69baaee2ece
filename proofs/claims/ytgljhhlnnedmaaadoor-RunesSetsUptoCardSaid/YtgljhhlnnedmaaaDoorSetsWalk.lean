/- RunesSets: the walk of the law. -/
import Derived.Test.YtgljhhlnnedmaaaDoorAwake
import Derived.Test.YtgljhhlnnedmaaaDoorMade
import Derived.Test.YtgljhhlnnedmaaaDoorEdges
import Derived.Deep.RegionHeldLaw
import Derived.Deep.AppendLies
namespace Go.Proofs.YtgljhhlnnedmaaaDoor
open Go.RowKit

theorem right_yes (A : Option Addr) (n c : Nat) {l : List (Int × Int)} (w : World) (hr : Reads w w.heap.size 2 A n c (flat l)) (h : rightB l = true) :
    Calls Tryd.prog 29 #[.slice A n c] w fun e w' => e = .returned (.bool true) ∧ Below w.heap.size w w' :=
  (right_any A n c l w hr).mono fun e w' ⟨he, hw⟩ => ⟨by rw [he, h], hw⟩

theorem below_drew1 {B : Nat} {a w : World} (h : Below B a w) : Below B a w.drew := h.trans ⟨rfl, rfl, rfl, Nat.le_refl _, fun _ _ => rfl⟩
theorem has_yes (A : Option Addr) (n c : Nat) (r : Int) {l : List (Int × Int)} {b : Bool} (w : World) (hr : Reads w w.heap.size 2 A n c (flat l)) (h : rightB l = true) (hb : memB l r = b) :
    Calls Tryd.prog 34 #[.slice A n c, .int .i64 r] w fun e w' => e = .returned (.bool b) ∧ Below w.heap.size w w' :=
  (has_any A n c r l w hr).mono fun e w' ⟨he, hw⟩ => ⟨by rw [he, h, hb]; rfl, hw⟩
theorem mem_yes (A : Option Addr) (n c B : Nat) (r : Int) {l : List (Int × Int)} {b : Bool} (w : World) (hr : Reads w B 2 A n c (flat l)) (hb : memB l r = b) :
    Calls Tryd.prog 32 #[.slice A n c, .int .i64 r] w fun e w' => e = .returned (.bool b) ∧ w = w' :=
  (member_any A n c B r l w hr).mono fun e w' ⟨he, hw⟩ => ⟨by rw [he, hb], hw⟩
theorem dom_yes {r : Int} {b : Bool} (w : World) (hb : dom r = b) : Calls Tryd.prog 20 #[.int .i64 r] w fun e w' => e = .returned (.bool b) ∧ w = w' :=
  (lawDomain_any r w).mono fun e w' ⟨he, hw⟩ => ⟨by rw [he, hb], hw⟩
theorem oth_eq (r : Int) : othR r = otherR r := rfl
/-- A class, or the error where it is too great. -/
theorem made_or {l : List (Int × Int)} {B : Nat} {w w' : World} {e : Ending} (h : ClassPost l B w e w') (hl : ∀ x ∈ l, inR x) :
    ∃ C, Cls C ∧ (∀ r, memB C r = true ↔ dom r = true ∧ memB l r = true) ∧ Below B w w' ∧ ∃ (A : Option Addr) (n c : Nat) (k : Int), e = .returned (.tuple #[.slice A n c, .int .i64 k]) ∧
      (((k != 0) = true ∧ 5000 < (splitR l).length) ∨ (k = 0 ∧ C.length = n ∧ n ≤ 5000 ∧ w'.ownsRow B 55 2 (.slice A n c) n (flat C))) := by
  obtain ⟨C, h1, h2, h3, hb, hor⟩ := made_any h hl
  refine ⟨C, h1, h2, hb, ?_⟩
  rcases hor with ⟨hbig, rfl⟩ | ⟨h5, A, c, rfl, ho⟩
  · exact ⟨none, 0, 0, 3, rfl, .inl ⟨rfl, by omega⟩⟩
  · exact ⟨A, _, c, 0, rfl, .inr ⟨rfl, rfl, h5, ho⟩⟩
/-- The box of the law's argument. -/
def boxR (A1 A2 A3 : Option Addr) (n1 c1 n2 c2 n3 c3 : Nat) : List Value := [.slice A1 n1 c1, .slice A2 n2 c2, .slice A3 n3 c3]

set_option maxRecDepth 100000 in
set_option maxHeartbeats 8000000 in
theorem sets_walk (A1 A2 A3 : Option Addr) (n1 c1 n2 c2 n3 c3 : Nat) (l1 l2 : List (Int × Int)) (l3 : List Int) (w : World) (hr1 : Reads w w.heap.size 2 A1 n1 c1 (flat l1)) (hr2 : Reads w w.heap.size 2 A2 n2 c2 (flat l2))
    (hr3 : Reads w w.heap.size 1 A3 n3 c3 (l3.map (Value.int .i64)))
    (hz1 : A1 = none → c1 = 0) (hz2 : A2 = none → c2 = 0) (hz3 : A3 = none → c3 = 0) (hn : n1 + n2 ≤ 1048576) (hn3 : n3 ≤ 1048576) (hL : LeadsIn w) :
    Calls Tryd.prog 8 #[.agg #[.slice A1 n1 c1, .slice A2 n2 c2, .slice A3 n3 c3]] w fun e w' => e = .returned (.bool true) ∧ Below w.heap.size w w' := by
  obtain ⟨i0, hi, hq0, hq1, hq2⟩ := info_parts info_rng
  obtain ⟨BB, hBB0⟩ : ∃ BB, BB = w.heap.size := ⟨_, rfl⟩
  rw [← hBB0]
  have hg0 : 0 < w.heap.size := by
    obtain ⟨t, fr, h⟩ := hL
    exact (Array.getElem?_eq_some_iff.1 h).1
  have hb0 : Below w.heap.size w (w.alloc (.cells #[.slice A1 n1 c1, .slice A2 n2 c2, .slice A3 n3 c3] 44)) := (Below.refl _ _).alloc (Nat.le_refl _) _
  have HB0 := Lib.hid hb0
  have hbx1 : (w.alloc (.cells #[.slice A1 n1 c1, .slice A2 n2 c2, .slice A3 n3 c3] 44)).cell? ⟨w.heap.size, 0, none⟩ = some (.slice A1 n1 c1) := (Blk.new w _ [.slice A1 n1 c1, .slice A2 n2 c2, .slice A3 n3 c3]).cell 0
  have hbx2 : (w.alloc (.cells #[.slice A1 n1 c1, .slice A2 n2 c2, .slice A3 n3 c3] 44)).cell? ⟨w.heap.size, 1, none⟩ = some (.slice A2 n2 c2) := (Blk.new w _ [.slice A1 n1 c1, .slice A2 n2 c2, .slice A3 n3 c3]).cell 1
  have hr1 : Reads (w.alloc (.cells #[.slice A1 n1 c1, .slice A2 n2 c2, .slice A3 n3 c3] 44)) (w.heap.size + 1) 2 A1 n1 c1 (flat l1) := (hr1.alloc (Nat.le_refl _) _).more (by omega)
  have hr2 : Reads (w.alloc (.cells #[.slice A1 n1 c1, .slice A2 n2 c2, .slice A3 n3 c3] 44)) (w.heap.size + 1) 2 A2 n2 c2 (flat l2) := (hr2.alloc (Nat.le_refl _) _).more (by omega)
  have hr3 : Reads (w.alloc (.cells #[.slice A1 n1 c1, .slice A2 n2 c2, .slice A3 n3 c3] 44)) (w.heap.size + 1) 1 A3 n3 c3 (l3.map (Value.int .i64)) := (hr3.alloc (Nat.le_refl _) _).more (by omega)
  have hbx3 : (w.alloc (.cells #[.slice A1 n1 c1, .slice A2 n2 c2, .slice A3 n3 c3] 44)).cell? ⟨w.heap.size, 2, none⟩ = some (.slice A3 n3 c3) := (Blk.new w _ [.slice A1 n1 c1, .slice A2 n2 c2, .slice A3 n3 c3]).cell 2
  have HR3 := Lib.hid hr3
  have HBX3 := Lib.hid hbx3
  have HZ3 := Lib.hid hz3
  clear hr3 hbx3 hz3
  have hL0 := hL.below hb0 hg0
  have HA := Lib.hid (awake_any (w.alloc (.cells #[.slice A1 n1 c1, .slice A2 n2 c2, .slice A3 n3 c3] 44)) hL0 (by simp))
  obtain ⟨bx, hbx⟩ : ∃ bx, bx = w.heap.size := ⟨_, rfl⟩
  have hlen1 : l1.length = n1 := by have := hr1.len; rw [flat_length] at this; omega
  have hlen2 : l2.length = n2 := by have := hr2.len; rw [flat_length] at this; omega
  have HLEN1 := Lib.hid hlen1
  have HLEN2 := Lib.hid hlen2
  have HBX1 := Lib.hid hbx1
  have HBX2 := Lib.hid hbx2
  have HR1 := Lib.hid hr1
  have HR2 := Lib.hid hr2
  have HZ1 := Lib.hid hz1
  have HZ2 := Lib.hid hz2
  have hn1 : n1 ≤ 1048576 := by omega
  have hn2 : n2 ≤ 1048576 := by omega
  have hs0 : (w.alloc (.cells #[.slice A1 n1 c1, .slice A2 n2 c2, .slice A3 n3 c3] 44)).heap.size = w.heap.size + 1 := by simp
  clear hb0 hbx1 hbx2 hr1 hr2 hz1 hz2 hL hL0 hbx hlen1 hlen2
  have HFIN := Lib.hid (show ∀ w', Below (w.heap.size + 1) (w.alloc (.cells #[.slice A1 n1 c1, .slice A2 n2 c2, .slice A3 n3 c3] 44)) w' → Below BB w w' from fun w' h => by rw [hBB0]; exact HB0.out.trans (h.mono (by omega)))
  clear hBB0
  have hgB : 0 < w.heap.size + 1 := by omega
  go_enter Tryd.func8, Tryd.ntmps8
  go_wp2_with fail
  refine HA.out.mono ?_
  rintro e w1 ⟨rfl, hb1⟩
  clear HA
  rw [hs0] at hb1
  have hB0 : w.heap.size + 1 ≤ (w.alloc (.cells #[.slice A1 n1 c1, .slice A2 n2 c2, .slice A3 n3 c3] 44)).heap.size := by rw [hs0]; exact Nat.le_refl _
  clear hs0
  generalize w.alloc (.cells #[.slice A1 n1 c1, .slice A2 n2 c2, .slice A3 n3 c3] 44) = w0 at *
  have hbl : w.heap.size < w.heap.size + 1 := by omega
  generalize hBB : w.heap.size + 1 = B at *
  generalize w.heap.size = bx at *
  clear hBB
  have CB1 := Lib.hid (show ∀ u, Below B w0 u → u.cell? ⟨bx, 0, none⟩ = some (.slice A1 n1 c1) from fun u h => (h.cell (p := ⟨bx, 0, none⟩) hbl).trans HBX1.out)
  have CB2 := Lib.hid (show ∀ u, Below B w0 u → u.cell? ⟨bx, 1, none⟩ = some (.slice A2 n2 c2) from fun u h => (h.cell (p := ⟨bx, 1, none⟩) hbl).trans HBX2.out)
  have CB3 := Lib.hid (show ∀ u, Below B w0 u → u.cell? ⟨bx, 2, none⟩ = some (.slice A3 n3 c3) from fun u h => (h.cell (p := ⟨bx, 2, none⟩) hbl).trans HBX3.out)
  have hs1 : B ≤ w1.heap.size := Nat.le_trans hB0 hb1.size
  have hx1 := CB1.out w1 hb1
  go_wp2_with fail
  -- Norm, twice
  have H := Lib.hid ((norm_any A1 n1 c1 l1 w1 ((HR1.out.below hb1).more hs1) hn1).mono fun e w' h => norm_made h)
  refine H.out.mono ?_
  rintro e w2 ⟨hb2, Aa, na, ca, ka, rfl, hka⟩
  clear H hx1
  have hb2 : Below B w0 w2 := hb1.trans (hb2.mono hs1)
  have hs2 : B ≤ w2.heap.size := Nat.le_trans hB0 hb2.size
  have hx2 := CB2.out w2 hb2
  have HKA := Lib.hid hka
  clear hka hb1 hs1
  go_wp2_with fail
  have H := Lib.hid ((norm_any A2 n2 c2 l2 w2 ((HR2.out.below hb2).more hs2) hn2).mono fun e w' h => norm_made h)
  refine H.out.mono ?_
  rintro e w3 ⟨hb3', Ab, nb, cb, kb, rfl, hkb⟩
  clear H hx2
  have hb3 : Below B w0 w3 := hb2.trans (hb3'.mono hs2)
  have hs3 : B ≤ w3.heap.size := Nat.le_trans hB0 hb3.size
  have HKB := Lib.hid hkb
  clear hkb hs2 hb2
  have HEND := HFIN.out w3 hb3
  rcases HKA.out with hk | ⟨rfl, hok1, CA, hCA, hna, hna5, hmA, hoA⟩
  · go_wp2_with fail
    go_ret
    exact ⟨rfl, HEND⟩
  rcases HKB.out with hk | ⟨rfl, hok2, CB, hCB, hnb, hnb5, hmB, hoB⟩
  · go_wp2_with fail
    go_ret
    exact ⟨rfl, HEND⟩
  have HMA := Lib.hid hmA
  have HMB := Lib.hid hmB
  have HOK1 := Lib.hid hok1
  have HOK2 := Lib.hid hok2
  have HNA := Lib.hid hna
  have HNB := Lib.hid hnb
  have HCA := Lib.hid hCA
  have HCB := Lib.hid hCB
  have HRO := Lib.hid ((((RdOK.nil (w := w2)).add hoA).below hb3').add hoB)
  clear hmA hmB hok1 hok2 hna hnb hCA hCB hoA hoB HKA HKB hb3'
  go_wp2_with fail
  have H := Lib.hid ((union_any Aa Ab na ca nb cb CA CB w3 (HRO.out ⟨Aa, na, ca, CA⟩ (by simp)).2 (HRO.out ⟨Ab, nb, cb, CB⟩ (by simp)).2 (HRO.out ⟨Aa, na, ca, CA⟩ (by simp)).1 (HRO.out ⟨Ab, nb, cb, CB⟩ (by simp)).1).mono fun e w' h => ok_of h (by rw [right_of HCA.out (by have := HNA.out; omega), right_of HCB.out (by have := HNB.out; omega)]; rfl))
  refine H.out.mono ?_
  intro e w4 h
  clear H
  obtain ⟨CU, hC, hm, hb, Au, nu, cu, ku, rfl, hor⟩ := made_or h (in_union HCA.out HCB.out)
  have HFu := Lib.hid (show ((ku != 0) = true ∧ (2000 < na ∨ 2000 < nb)) ∨ (ku = 0 ∧ CU.length = nu ∧ nu ≤ 5000 ∧ w4.ownsRow w3.heap.size 55 2 (.slice Au nu cu) nu (flat CU)) from by
    rcases hor with ⟨h1, hbig⟩ | h
    · exact .inl ⟨h1, by rw [len_union HCA.out HCB.out] at hbig; have := HNA.out; have := HNB.out; omega⟩
    · exact .inr h)
  have HCU := Lib.hid hC
  have HMCU := Lib.hid hm
  have HRO := Lib.hid (HRO.out.below hb)
  have HBWu := Lib.hid hb
  have hb4 : Below B w0 w4 := hb3.trans (hb.mono hs3)
  have hs4 : B ≤ w4.heap.size := Nat.le_trans hB0 hb4.size
  clear h hb hC hm hor hb3 hs3
  go_wp2_with fail
  have H := Lib.hid ((negate_any Aa na ca CA w4 (HRO.out ⟨Aa, na, ca, CA⟩ (by simp)).1).mono fun e w' h => ok_of h (right_of HCA.out (by have := HNA.out; omega)))
  refine H.out.mono ?_
  intro e w5 h
  clear H
  obtain ⟨CN, hC, hm, hb, An, nn, cn, kn, rfl, hor⟩ := made_or h (neg_inr HCA.out)
  have HFn := Lib.hid (show ((kn != 0) = true ∧ (2000 < na ∨ 2000 < nb)) ∨ (kn = 0 ∧ CN.length = nn ∧ nn ≤ 5000 ∧ w5.ownsRow w4.heap.size 55 2 (.slice An nn cn) nn (flat CN)) from by
    rcases hor with ⟨h1, hbig⟩ | h
    · exact .inl ⟨h1, by have := len_neg HCA.out; have := HNA.out; omega⟩
    · exact .inr h)
  have HCN := Lib.hid hC
  have HMCN := Lib.hid hm
  have HRO := Lib.hid (HRO.out.below hb)
  have HBWn := Lib.hid hb
  have hb5 : Below B w0 w5 := hb4.trans (hb.mono hs4)
  have hs5 : B ≤ w5.heap.size := Nat.le_trans hB0 hb5.size
  clear h hb hC hm hor hb4 hs4
  go_wp2_with fail
  have H := Lib.hid ((fold_any Aa na ca CA w5 (HRO.out ⟨Aa, na, ca, CA⟩ (by simp)).2 (HRO.out ⟨Aa, na, ca, CA⟩ (by simp)).1).mono fun e w' h => ok_of h (right_of HCA.out (by have := HNA.out; omega)))
  refine H.out.mono ?_
  intro e w6 h
  clear H
  obtain ⟨CO, hC, hm, hb, Ao, no, co, ko, rfl, hor⟩ := made_or h (in_fold HCA.out)
  have HFo := Lib.hid (show ((ko != 0) = true ∧ (2000 < na ∨ 2000 < nb)) ∨ (ko = 0 ∧ CO.length = no ∧ no ≤ 5000 ∧ w6.ownsRow w5.heap.size 55 2 (.slice Ao no co) no (flat CO)) from by
    rcases hor with ⟨h1, hbig⟩ | h
    · exact .inl ⟨h1, by have := len_fold HCA.out; have := HNA.out; omega⟩
    · exact .inr h)
  have HCO := Lib.hid hC
  have HMCO := Lib.hid hm
  have HRO := Lib.hid (HRO.out.below hb)
  have HBWo := Lib.hid hb
  have hb6 : Below B w0 w6 := hb5.trans (hb.mono hs5)
  have hs6 : B ≤ w6.heap.size := Nat.le_trans hB0 hb6.size
  clear h hb hC hm hor hb5 hs5
  have HEND := HFIN.out w6 hb6
  rcases HFu.out with ⟨hk, hfull⟩ | ⟨rfl, hnu, hnu5, hou⟩
  · by_cases hfa : 2000 < na
    · go_wp2_with fail
      go_ret
      exact ⟨rfl, HEND⟩
    · have hfb : 2000 < nb := by omega
      clear hfull
      have hde : decide ((2000 : Int) < (nb : Int)) = true := decide_eq_true (by omega)
      go_wp2_with fail
      go_ret
      exact ⟨ret_bool (by first | rfl | exact hde), HEND⟩
  rcases HFn.out with ⟨hk, hfull⟩ | ⟨rfl, hnn, hnn5, hon⟩
  · by_cases hfa : 2000 < na
    · go_wp2_with fail
      go_ret
      exact ⟨rfl, HEND⟩
    · have hfb : 2000 < nb := by omega
      clear hfull
      have hde : decide ((2000 : Int) < (nb : Int)) = true := decide_eq_true (by omega)
      go_wp2_with fail
      go_ret
      exact ⟨ret_bool (by first | rfl | exact hde), HEND⟩
  rcases HFo.out with ⟨hk, hfull⟩ | ⟨rfl, hno, hno5, hoo⟩
  · by_cases hfa : 2000 < na
    · go_wp2_with fail
      go_ret
      exact ⟨rfl, HEND⟩
    · have hfb : 2000 < nb := by omega
      clear hfull
      have hde : decide ((2000 : Int) < (nb : Int)) = true := decide_eq_true (by omega)
      go_wp2_with fail
      go_ret
      exact ⟨ret_bool (by first | rfl | exact hde), HEND⟩
  have HNU := Lib.hid hnu
  have HNN := Lib.hid hnn
  have HNO := Lib.hid hno
  have hro := ((((HRO.out.add (own_below (own_below hou HBWn.out) HBWo.out))).add (own_below hon HBWo.out)).add hoo)
  have HRO := Lib.hid hro
  clear hnu hnn hno hou hon hoo HFu HFn HFo HEND hro HBWu HBWn HBWo
  have RA := Lib.hid (right_of HCA.out (by have := HNA.out; omega))
  have RU := Lib.hid (right_of HCU.out (by have := HNU.out; omega))
  have RN := Lib.hid (right_of HCN.out (by have := HNN.out; omega))
  have RO := Lib.hid (right_of HCO.out (by have := HNO.out; omega))
  have QA := Lib.hid (show ∀ r, memB CA r = (dom r && memB l1 r) from fun r => by rw [Bool.eq_iff_iff, Bool.and_eq_true]; exact HMA.out r)
  have QB := Lib.hid (show ∀ r, memB CB r = (dom r && memB l2 r) from fun r => by rw [Bool.eq_iff_iff, Bool.and_eq_true]; exact HMB.out r)
  have QU := Lib.hid (show ∀ r, memB CU r = (dom r && (memB CA r || memB CB r)) from fun r => by rw [Bool.eq_iff_iff, Bool.and_eq_true, Bool.or_eq_true]; rw [HMCU.out r, mem_append])
  have QN := Lib.hid (show ∀ r, memB CN r = (dom r && !memB CA r) from fun r => by rw [Bool.eq_iff_iff, Bool.and_eq_true, mem_neg HCA.out HMCN.out r]; simp)
  have QO := Lib.hid (show ∀ r, memB CO r = (dom r && (memB CA r || memB CA (othR r))) from fun r => by rw [Bool.eq_iff_iff, Bool.and_eq_true, Bool.or_eq_true, mem_fold HMCO.out r]; rfl)
  have QD := Lib.hid (show ∀ r, dom (othR r) = dom r from fun r => other_dom)
  clear HMA HMB HMCU HMCN HMCO HCA HCB HCU HCN HCO HNA HNB HNU HNN HNO HOK1 HOK2
  have hx1 := CB1.out w6 hb6
  have hx2 := CB2.out w6 hb6
  have hx3 := CB3.out w6 hb6
  have HED := Lib.hid (edges_any A1 A2 A3 n1 c1 n2 c2 n3 c3 l1 l2 l3 w6 HZ3.out ((HR1.out.below hb6).more hs6) ((HR2.out.below hb6).more hs6) ((HR3.out.below hb6).more hs6) hn1 hn2 hn3)
  by_cases hfa : 2000 < na
  case' neg => by_cases hfb : 2000 < nb
  all_goals
    go_wp2_with fail
    refine HED.out.mono ?_
    rintro e w7 ⟨v, xs, rfl, hov, hb7'⟩
    have hb7 : Below B w0 w7 := hb6.trans (hb7'.mono hs6)
    have hs7 : B ≤ w7.heap.size := Nat.le_trans hB0 hb7.size
    have HRO7 := Lib.hid (HRO.out.below hb7')
    obtain ⟨Av, cv, rfl⟩ := own_shape hov
    have hrv := Reads.of_own hov
    have hvc := hrv.le
    have hvm := hrv.cap
    have HRV := Lib.hid hrv
    obtain ⟨m, hm⟩ : ∃ m, m = xs.length := ⟨_, rfl⟩
    rw [← hm] at hvc HRV ⊢
    have HM := Lib.hid hm
    clear hov hrv hm hb7'
    go_wp2_with fail
    go_loopw [16] (fun p wr => ∃ k : Nat, k ≤ m ∧ p = .int .i64 k ∧ Below w7.heap.size w7 wr) (fun p _ => m - (intOf p).toNat)
    case atStart => exact ⟨0, Nat.zero_le _, rfl, Below.refl _ _⟩
    case round =>
      obtain ⟨k, hk, rfl, hbel⟩ := hrel
      have hszr := hbel.size
      have hbB : Below B w0 wr := hb7.trans (hbel.mono hs7)
      by_cases hlt : k < m
      · obtain ⟨r, hxr⟩ : ∃ r, xs[k]? = some r := ⟨_, List.getElem?_eq_getElem (by have := HM.out; omega)⟩
        obtain ⟨gv, off, rfl, hgv, hcx⟩ := HRV.out.at_ (by omega)
        have cx : wr.cell? ⟨gv, off + k, none⟩ = some (.int .i64 r) := (hbel.cell hgv).trans (hcx k _ (by simp [hxr]))
        have hy1 := CB1.out wr hbB
        have hy2 := CB2.out wr hbB
        have R1 := Lib.hid (HR1.out.below hbB)
        have R2 := Lib.hid (HR2.out.below hbB)
        have RDW := Lib.hid (HRO7.out.below hbel)
        have HFE := Lib.hid (show ∀ u, Below wr.heap.size wr u → Below w7.heap.size w7 u from fun u h => hbel.trans (h.mono hszr))
        clear hxr hcx
        have qa := QA.out r
        have qb := QB.out r
        have qu := QU.out r
        have qn := QN.out r
        have qo := QO.out r
        have qd := QD.out r
        have qp := QA.out (othR r)
        cases hd : dom r <;> cases hp : memB l1 r <;> cases hq : memB l2 r <;> cases hp' : memB l1 (othR r)
        all_goals as_aux_lemma =>
          rw [hd] at qa qb qu qn qo qd
          rw [qd] at qp
          rw [hp] at qa
          rw [hq] at qb
          rw [hp'] at qp
          rw [qa, qb] at qu
          rw [qa] at qn
          rw [qa, qp] at qo
          simp only [Bool.and_true, Bool.and_false, Bool.true_and, Bool.false_and, Bool.or_true, Bool.or_false, Bool.true_or, Bool.false_or, Bool.not_true, Bool.not_false] at qa qu qn qo
          have HA1 := Lib.hid qa
          have HU1 := Lib.hid qu
          have HN1 := Lib.hid qn
          have HO1 := Lib.hid qo
          have HD1 := Lib.hid hd
          have HP1 := Lib.hid hp
          have HQ1 := Lib.hid hq
          have HPP := Lib.hid hp'
          have HDD := Lib.hid qd
          clear qa qb qu qn qo qd qp hd hp hq hp'
          go_wp2_with (first
            | (go_at_call 20; refine (dom_yes _ HD1.out).mono ?_; rintro e w' ⟨rfl, rfl⟩)
            | (go_at_call 32; (first | (with_reducible refine (mem_yes A1 n1 c1 B r _ R1.out HP1.out).mono ?_) | (with_reducible refine (mem_yes A2 n2 c2 B r _ R2.out HQ1.out).mono ?_)); rintro e w' ⟨rfl, rfl⟩))
          have ho1 : othR r = othR r := rfl
          obtain ⟨ro, hro⟩ : ∃ ro, ro = othR r := ⟨_, rfl⟩
          have QO1 := Lib.hid (show ∀ u, Calls Tryd.prog 33 #[.int .i64 r] u fun e w' => e = .returned (.int .i64 ro) ∧ u = w' from fun u => by rw [hro]; exact other_any r u)
          rw [← hro] at HPP HDD
          clear hro ho1
          go_quiet ((first
            | (go_at_call 33; exact Calls.quiet_of_same ((QO1.out _).mono fun _ _ ⟨h1, h2⟩ => ⟨h1, h2.symm⟩))
            | (go_at_call 20; exact Calls.quiet_of_same ((dom_yes _ HDD.out).mono fun _ _ ⟨h1, h2⟩ => ⟨h1, h2.symm⟩))
            | (go_at_call 32; (first | exact Calls.quiet_of_same ((mem_yes A1 n1 c1 B ro _ R1.out HPP.out).mono fun _ _ ⟨h1, h2⟩ => ⟨h1, h2.symm⟩) | exact Calls.quiet_of_same ((mem_yes A1 n1 c1 B ro _ (R1.out.drewN _) HPP.out).mono fun _ _ ⟨h1, h2⟩ => ⟨h1, h2.symm⟩)))))
          have hbq : Below wr.heap.size wr (wr.drewN nq) := bdrewN (Below.refl _ _) nq
          generalize wr.drewN nq = W1 at *
          go_wp2_with fail
          have rdq := RDW.out.below hbq
          have H := Lib.hid (has_yes Aa na ca r (l := CA) W1 (rdq ⟨Aa, na, ca, CA⟩ (by simp)).1 RA.out HA1.out)
          refine H.out.mono ?_
          rintro e W2 ⟨rfl, hb2⟩
          have hbq := hbq.trans (hb2.mono hbq.size)
          clear H hb2 rdq
          go_wp2_with fail
          have rdq := RDW.out.below hbq
          have H := Lib.hid (has_yes Au nu cu r (l := CU) W2 (rdq ⟨Au, nu, cu, CU⟩ (by simp)).1 RU.out HU1.out)
          refine H.out.mono ?_
          rintro e W3 ⟨rfl, hb2⟩
          have hbq := hbq.trans (hb2.mono hbq.size)
          clear H hb2 rdq
          go_wp2_with fail
          have rdq := RDW.out.below hbq
          have H := Lib.hid (has_yes An nn cn r (l := CN) W3 (rdq ⟨An, nn, cn, CN⟩ (by simp)).1 RN.out HN1.out)
          refine H.out.mono ?_
          rintro e W4 ⟨rfl, hb2⟩
          have hbq := hbq.trans (hb2.mono hbq.size)
          clear H hb2 rdq
          go_wp2_with fail
          have rdq := RDW.out.below hbq
          have H := Lib.hid (has_yes Ao no co r (l := CO) W4 (rdq ⟨Ao, no, co, CO⟩ (by simp)).1 RO.out HO1.out)
          refine H.out.mono ?_
          rintro e W5 ⟨rfl, hb2⟩
          have hbq := hbq.trans (hb2.mono hbq.size)
          clear H hb2 rdq
          go_wp2_with fail
          exact ⟨⟨k + 1, by omega, by go_num, HFE.out _ hbq⟩, by simp [intOf]; omega⟩
      · have HEND := HFIN.out wr hbB
        go_wp2_with fail
        go_ret
        exact ⟨rfl, HEND⟩
end Go.Proofs.YtgljhhlnnedmaaaDoor
