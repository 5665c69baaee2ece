/- RunesOne: the walk of the law. -/
import Derived.Test.YtgljhhlnnedmaaaDoorAwake
import Derived.Test.YtgljhhlnnedmaaaDoorMade
import Derived.Test.YtgljhhlnnedmaaaDoorSameR
import Derived.Deep.RegionHeldLaw
import Derived.Deep.AppendLies
namespace Go.Proofs.YtgljhhlnnedmaaaDoor
open Go.RowKit

theorem same_self (A A' : Option Addr) (n c n' c' B : Nat) (xs : List (Int × Int)) (w : World) (hx : Reads w B 2 A n c (flat xs)) (hy : Reads w B 2 A' n' c' (flat xs)) :
    Calls Tryd.prog 30 #[.slice A n c, .slice A' n' c'] w fun e w' => e = .returned (.bool true) ∧ ∃ m, w.drewN m = w' :=
  (sameR_any A A' n c n' c' B xs xs w hx hy).mono fun e w' ⟨he, hw⟩ => ⟨by rw [he]; simp, hw⟩
theorem right_yes (A : Option Addr) (n c : Nat) {l : List (Int × Int)} (w : World) (hr : Reads w w.heap.size 2 A n c (flat l)) (h : rightB l = true) :
    Calls Tryd.prog 29 #[.slice A n c] w fun e w' => e = .returned (.bool true) ∧ Below w.heap.size w w' :=
  (right_any A n c l w hr).mono fun e w' ⟨he, hw⟩ => ⟨by rw [he, h], hw⟩

theorem below_drew1 {B : Nat} {a w : World} (h : Below B a w) : Below B a w.drew := h.trans ⟨rfl, rfl, rfl, Nat.le_refl _, fun _ _ => rfl⟩
/-- The box of the law's argument. -/
def boxR (A1 A2 A3 : Option Addr) (n1 c1 n2 c2 n3 c3 : Nat) : List Value := [.slice A1 n1 c1, .slice A2 n2 c2, .slice A3 n3 c3]

set_option maxRecDepth 100000 in
set_option maxHeartbeats 8000000 in
theorem one_walk (A1 A2 A3 : Option Addr) (n1 c1 n2 c2 n3 c3 : Nat) (l1 l2 : List (Int × Int)) (w : World) (hr1 : Reads w w.heap.size 2 A1 n1 c1 (flat l1)) (hr2 : Reads w w.heap.size 2 A2 n2 c2 (flat l2))
    (hz1 : A1 = none → c1 = 0) (hz2 : A2 = none → c2 = 0) (hn : n1 + n2 ≤ 1048576) (hL : LeadsIn w) :
    Calls Tryd.prog 7 #[.agg #[.slice A1 n1 c1, .slice A2 n2 c2, .slice A3 n3 c3]] w fun e w' => e = .returned (.bool true) ∧ Below w.heap.size w w' := by
  obtain ⟨i0, hi, hq0, hq1, hq2⟩ := info_parts info_rng
  obtain ⟨BB, hBB0⟩ : ∃ BB, BB = w.heap.size := ⟨_, rfl⟩
  rw [← hBB0]
  have hg0 : 0 < w.heap.size := by
    obtain ⟨t, fr, h⟩ := hL
    exact (Array.getElem?_eq_some_iff.1 h).1
  have hb0 : Below w.heap.size w (w.alloc (.cells #[.slice A1 n1 c1, .slice A2 n2 c2, .slice A3 n3 c3] 44)) := (Below.refl _ _).alloc (Nat.le_refl _) _
  have HB0 := Lib.hid hb0
  have hbx1 : (w.alloc (.cells #[.slice A1 n1 c1, .slice A2 n2 c2, .slice A3 n3 c3] 44)).cell? ⟨w.heap.size, 0, none⟩ = some (.slice A1 n1 c1) := (Blk.new w _ [.slice A1 n1 c1, .slice A2 n2 c2, .slice A3 n3 c3]).cell 0
  have hbx2 : (w.alloc (.cells #[.slice A1 n1 c1, .slice A2 n2 c2, .slice A3 n3 c3] 44)).cell? ⟨w.heap.size, 1, none⟩ = some (.slice A2 n2 c2) := (Blk.new w _ [.slice A1 n1 c1, .slice A2 n2 c2, .slice A3 n3 c3]).cell 1
  have hr1 : Reads (w.alloc (.cells #[.slice A1 n1 c1, .slice A2 n2 c2, .slice A3 n3 c3] 44)) (w.heap.size + 1) 2 A1 n1 c1 (flat l1) := (hr1.alloc (Nat.le_refl _) _).more (by omega)
  have hr2 : Reads (w.alloc (.cells #[.slice A1 n1 c1, .slice A2 n2 c2, .slice A3 n3 c3] 44)) (w.heap.size + 1) 2 A2 n2 c2 (flat l2) := (hr2.alloc (Nat.le_refl _) _).more (by omega)
  have hL0 := hL.below hb0 hg0
  have HA := Lib.hid (awake_any (w.alloc (.cells #[.slice A1 n1 c1, .slice A2 n2 c2, .slice A3 n3 c3] 44)) hL0 (by simp))
  obtain ⟨bx, hbx⟩ : ∃ bx, bx = w.heap.size := ⟨_, rfl⟩
  have hlen1 : l1.length = n1 := by have := hr1.len; rw [flat_length] at this; omega
  have hlen2 : l2.length = n2 := by have := hr2.len; rw [flat_length] at this; omega
  have HLEN1 := Lib.hid hlen1
  have HLEN2 := Lib.hid hlen2
  have HBX1 := Lib.hid hbx1
  have HBX2 := Lib.hid hbx2
  have HR1 := Lib.hid hr1
  have HR2 := Lib.hid hr2
  have HZ1 := Lib.hid hz1
  have HZ2 := Lib.hid hz2
  have hn1 : n1 ≤ 1048576 := by omega
  have hn2 : n2 ≤ 1048576 := by omega
  have hs0 : (w.alloc (.cells #[.slice A1 n1 c1, .slice A2 n2 c2, .slice A3 n3 c3] 44)).heap.size = w.heap.size + 1 := by simp
  clear hb0 hbx1 hbx2 hr1 hr2 hz1 hz2 hL hL0 hbx hlen1 hlen2
  have HFIN := Lib.hid (show ∀ w', Below (w.heap.size + 1) (w.alloc (.cells #[.slice A1 n1 c1, .slice A2 n2 c2, .slice A3 n3 c3] 44)) w' → Below BB w w' from fun w' h => by rw [hBB0]; exact HB0.out.trans (h.mono (by omega)))
  clear hBB0
  have hgB : 0 < w.heap.size + 1 := by omega
  go_enter Tryd.func7, Tryd.ntmps7
  go_wp2_with fail
  refine HA.out.mono ?_
  rintro e w1 ⟨rfl, hb1⟩
  clear HA
  rw [hs0] at hb1
  have hB0 : w.heap.size + 1 ≤ (w.alloc (.cells #[.slice A1 n1 c1, .slice A2 n2 c2, .slice A3 n3 c3] 44)).heap.size := by rw [hs0]; exact Nat.le_refl _
  clear hs0
  generalize w.alloc (.cells #[.slice A1 n1 c1, .slice A2 n2 c2, .slice A3 n3 c3] 44) = w0 at *
  have hbl : w.heap.size < w.heap.size + 1 := by omega
  generalize hBB : w.heap.size + 1 = B at *
  generalize w.heap.size = bx at *
  clear hBB
  have CB1 := Lib.hid (show ∀ u, Below B w0 u → u.cell? ⟨bx, 0, none⟩ = some (.slice A1 n1 c1) from fun u h => (h.cell (p := ⟨bx, 0, none⟩) hbl).trans HBX1.out)
  have CB2 := Lib.hid (show ∀ u, Below B w0 u → u.cell? ⟨bx, 1, none⟩ = some (.slice A2 n2 c2) from fun u h => (h.cell (p := ⟨bx, 1, none⟩) hbl).trans HBX2.out)
  have hs1 : B ≤ w1.heap.size := Nat.le_trans hB0 hb1.size
  have hx1 := CB1.out w1 hb1
  go_wp2_with fail
  -- Norm, twice
  have H := Lib.hid ((norm_any A1 n1 c1 l1 w1 ((HR1.out.below hb1).more hs1) hn1).mono fun e w' h => norm_made h)
  refine H.out.mono ?_
  rintro e w2 ⟨hb2, Aa, na, ca, ka, rfl, hka⟩
  clear H hx1
  have hb2 : Below B w0 w2 := hb1.trans (hb2.mono hs1)
  have hs2 : B ≤ w2.heap.size := Nat.le_trans hB0 hb2.size
  have hx2 := CB2.out w2 hb2
  have HKA := Lib.hid hka
  clear hka hb1 hs1
  go_wp2_with fail
  have H := Lib.hid ((norm_any A2 n2 c2 l2 w2 ((HR2.out.below hb2).more hs2) hn2).mono fun e w' h => norm_made h)
  refine H.out.mono ?_
  rintro e w3 ⟨hb3', Ab, nb, cb, kb, rfl, hkb⟩
  clear H hx2
  have hb3 : Below B w0 w3 := hb2.trans (hb3'.mono hs2)
  have hs3 : B ≤ w3.heap.size := Nat.le_trans hB0 hb3.size
  have HKB := Lib.hid hkb
  clear hkb hs2 hb2
  have HEND := HFIN.out w3 hb3
  rcases HKA.out with hk | ⟨rfl, hok1, CA, hCA, hna, hna5, hmA, hoA⟩
  · go_wp2_with fail
    go_ret
    exact ⟨rfl, HEND⟩
  rcases HKB.out with hk | ⟨rfl, hok2, CB, hCB, hnb, hnb5, hmB, hoB⟩
  · go_wp2_with fail
    go_ret
    exact ⟨rfl, HEND⟩
  have HMA := Lib.hid hmA
  have HMB := Lib.hid hmB
  have HOK1 := Lib.hid hok1
  have HOK2 := Lib.hid hok2
  have HNA := Lib.hid hna
  have HNB := Lib.hid hnb
  have HCA := Lib.hid hCA
  have HCB := Lib.hid hCB
  have HRO := Lib.hid ((((RdOK.nil (w := w2)).add hoA).below hb3').add hoB)
  clear hmA hmB hok1 hok2 hna hnb hCA hCB hoA hoB HKA HKB hb3'
  by_cases ha2 : 2000 < na
  · go_wp2_with fail
    go_ret
    exact ⟨rfl, HEND⟩
  by_cases hb2 : 2000 < nb
  · go_wp2_with fail
    go_ret
    exact ⟨rfl, HEND⟩
  clear HEND
  go_wp2_with fail
  -- g
  have H := Lib.hid ((norm_any Aa na ca CA w3 (HRO.out ⟨Aa, na, ca, CA⟩ (by simp)).1 (by omega)).mono fun e w' h => norm_ok h (cls_ok HCA.out))
  refine H.out.mono ?_
  intro e w4 h
  clear H
  obtain ⟨Ag, ng, cg, hnn, rfl, ho, hb⟩ := made h (cls_in HCA.out) HCA.out (mem_self HCA.out) (by have := HNA.out; have := HNB.out; omega)
  have HNg := Lib.hid hnn
  clear hnn
  have HRO := Lib.hid ((HRO.out.below hb).add ho)
  have hb4 : Below B w0 w4 := hb3.trans (hb.mono hs3)
  have hs4 : B ≤ w4.heap.size := Nat.le_trans hB0 hb4.size
  clear h hb ho hb3 hs3
  go_wp2_with fail
  -- u
  have H := Lib.hid ((union_any Aa Ab na ca nb cb CA CB w4 (HRO.out ⟨Aa, na, ca, CA⟩ (by simp)).2 (HRO.out ⟨Ab, nb, cb, CB⟩ (by simp)).2 (HRO.out ⟨Aa, na, ca, CA⟩ (by simp)).1 (HRO.out ⟨Ab, nb, cb, CB⟩ (by simp)).1).mono fun e w' h => ok_of h (by rw [right_of HCA.out (by have := HNA.out; omega), right_of HCB.out (by have := HNB.out; omega)]; rfl))
  refine H.out.mono ?_
  intro e w5 h
  clear H
  obtain ⟨CU, hC, hm, hl, hb, hor⟩ := made_any h (in_union HCA.out HCB.out)
  have hl5 : CU.length ≤ 5000 := by have := HNA.out; have := HNB.out; rw [len_union HCA.out HCB.out] at hl; omega
  rcases hor with ⟨hbig, _⟩ | ⟨_, Au, cu, rfl, ho⟩
  · omega
  obtain ⟨nu, hnn⟩ : ∃ n, n = CU.length := ⟨_, rfl⟩
  rw [← hnn] at ho ⊢
  have HNu := Lib.hid hnn.symm
  have HCU := Lib.hid hC
  have HMCU := Lib.hid hm
  have HLCU := Lib.hid hl
  clear hC hm hl hnn hl5
  have HRO := Lib.hid ((HRO.out.below hb).add ho)
  have hb5 : Below B w0 w5 := hb4.trans (hb.mono hs4)
  have hs5 : B ≤ w5.heap.size := Nat.le_trans hB0 hb5.size
  clear h hb ho hb4 hs4
  go_wp2_with fail
  -- v
  have H := Lib.hid ((union_any Ab Aa nb cb na ca CB CA w5 (HRO.out ⟨Ab, nb, cb, CB⟩ (by simp)).2 (HRO.out ⟨Aa, na, ca, CA⟩ (by simp)).2 (HRO.out ⟨Ab, nb, cb, CB⟩ (by simp)).1 (HRO.out ⟨Aa, na, ca, CA⟩ (by simp)).1).mono fun e w' h => ok_of h (by rw [right_of HCA.out (by have := HNA.out; omega), right_of HCB.out (by have := HNB.out; omega)]; rfl))
  refine H.out.mono ?_
  intro e w6 h
  clear H
  obtain ⟨Av, nv, cv, hnn, rfl, ho, hb⟩ := made h (in_union HCB.out HCA.out) HCU.out (mem_union HMCU.out) (by have := HNA.out; have := HNB.out; have := HLCU.out; rw [len_union HCA.out HCB.out] at this; omega)
  have HNv := Lib.hid hnn
  clear hnn
  have HRO := Lib.hid ((HRO.out.below hb).add ho)
  have hb6 : Below B w0 w6 := hb5.trans (hb.mono hs5)
  have hs6 : B ≤ w6.heap.size := Nat.le_trans hB0 hb6.size
  clear h hb ho hb5 hs5
  go_wp2_with fail
  -- w
  have H := Lib.hid ((union_any Aa Aa na ca na ca CA CA w6 (HRO.out ⟨Aa, na, ca, CA⟩ (by simp)).2 (HRO.out ⟨Aa, na, ca, CA⟩ (by simp)).2 (HRO.out ⟨Aa, na, ca, CA⟩ (by simp)).1 (HRO.out ⟨Aa, na, ca, CA⟩ (by simp)).1).mono fun e w' h => ok_of h (by rw [right_of HCA.out (by have := HNA.out; omega)]; rfl))
  refine H.out.mono ?_
  intro e w7 h
  clear H
  obtain ⟨Aw, nw, cw, hnn, rfl, ho, hb⟩ := made h (in_union HCA.out HCA.out) HCA.out (mem_twice HCA.out) (by have := HNA.out; have := HNB.out; omega)
  have HNw := Lib.hid hnn
  clear hnn
  have HRO := Lib.hid ((HRO.out.below hb).add ho)
  have hb7 : Below B w0 w7 := hb6.trans (hb.mono hs6)
  have hs7 : B ≤ w7.heap.size := Nat.le_trans hB0 hb7.size
  clear h hb ho hb6 hs6
  go_wp2_with fail
  -- n
  have H := Lib.hid ((negate_any Aa na ca CA w7 (HRO.out ⟨Aa, na, ca, CA⟩ (by simp)).1).mono fun e w' h => ok_of h (right_of HCA.out (by have := HNA.out; omega)))
  refine H.out.mono ?_
  intro e w8 h
  clear H
  obtain ⟨CN, hC, hm, hl, hb, hor⟩ := made_any h (neg_inr HCA.out)
  have hl5 : CN.length ≤ 5000 := by have := HNA.out; have := HNB.out; have := len_neg HCA.out; omega
  rcases hor with ⟨hbig, _⟩ | ⟨_, An, cn, rfl, ho⟩
  · omega
  obtain ⟨nn, hnn⟩ : ∃ n, n = CN.length := ⟨_, rfl⟩
  rw [← hnn] at ho ⊢
  have HNn := Lib.hid hnn.symm
  have HCN := Lib.hid hC
  have HMCN := Lib.hid hm
  have HLCN := Lib.hid hl
  clear hC hm hl hnn hl5
  have HRO := Lib.hid ((HRO.out.below hb).add ho)
  have hb8 : Below B w0 w8 := hb7.trans (hb.mono hs7)
  have hs8 : B ≤ w8.heap.size := Nat.le_trans hB0 hb8.size
  clear h hb ho hb7 hs7
  go_wp2_with fail
  -- m
  have H := Lib.hid ((negate_any An nn cn CN w8 (HRO.out ⟨An, nn, cn, CN⟩ (by simp)).1).mono fun e w' h => ok_of h (right_of HCN.out (by have := HNA.out; have := HNB.out; have := HLCN.out; have := len_neg HCA.out; omega)))
  refine H.out.mono ?_
  intro e w9 h
  clear H
  obtain ⟨Am, nm, cm, hnn, rfl, ho, hb⟩ := made h (neg_inr HCN.out) HCA.out (mem_negneg HCA.out HCN.out HMCN.out) (by have := HNA.out; have := HNB.out; omega)
  have HNm := Lib.hid hnn
  clear hnn
  have HRO := Lib.hid ((HRO.out.below hb).add ho)
  have hb9 : Below B w0 w9 := hb8.trans (hb.mono hs8)
  have hs9 : B ≤ w9.heap.size := Nat.le_trans hB0 hb9.size
  clear h hb ho hb8 hs8
  go_wp2_with fail
  -- p
  have H := Lib.hid ((fold_any Aa na ca CA w9 (HRO.out ⟨Aa, na, ca, CA⟩ (by simp)).2 (HRO.out ⟨Aa, na, ca, CA⟩ (by simp)).1).mono fun e w' h => ok_of h (right_of HCA.out (by have := HNA.out; omega)))
  refine H.out.mono ?_
  intro e w10 h
  clear H
  obtain ⟨CF, hC, hm, hl, hb, hor⟩ := made_any h (in_fold HCA.out)
  have hl5 : CF.length ≤ 5000 := by have := HNA.out; have := HNB.out; have := len_fold HCA.out; omega
  rcases hor with ⟨hbig, _⟩ | ⟨_, Ap, cp, rfl, ho⟩
  · omega
  obtain ⟨np, hnn⟩ : ∃ n, n = CF.length := ⟨_, rfl⟩
  rw [← hnn] at ho ⊢
  have HNp := Lib.hid hnn.symm
  have HCF := Lib.hid hC
  have HMCF := Lib.hid hm
  have HLCF := Lib.hid hl
  clear hC hm hl hnn hl5
  have HRO := Lib.hid ((HRO.out.below hb).add ho)
  have hb10 : Below B w0 w10 := hb9.trans (hb.mono hs9)
  have hs10 : B ≤ w10.heap.size := Nat.le_trans hB0 hb10.size
  clear h hb ho hb9 hs9
  go_wp2_with fail
  -- r
  have H := Lib.hid ((fold_any Ap np cp CF w10 (HRO.out ⟨Ap, np, cp, CF⟩ (by simp)).2 (HRO.out ⟨Ap, np, cp, CF⟩ (by simp)).1).mono fun e w' h => ok_of h (right_of HCF.out (by have := HNA.out; have := HNB.out; have := HLCF.out; have := len_fold HCA.out; omega)))
  refine H.out.mono ?_
  intro e w11 h
  clear H
  obtain ⟨Ar, nr, cr, hnn, rfl, ho, hb⟩ := made h (in_fold HCF.out) HCF.out (mem_foldfold HMCF.out) (by have := HNA.out; have := HNB.out; have := HLCF.out; have := len_fold HCA.out; omega)
  have HNr := Lib.hid hnn
  clear hnn
  have HRO := Lib.hid ((HRO.out.below hb).add ho)
  have hb11 : Below B w0 w11 := hb10.trans (hb.mono hs10)
  have hs11 : B ≤ w11.heap.size := Nat.le_trans hB0 hb11.size
  clear h hb ho hb10 hs10
  go_wp2_with fail
  -- t
  have H := Lib.hid ((union_any Aa An na ca nn cn CA CN w11 (HRO.out ⟨Aa, na, ca, CA⟩ (by simp)).2 (HRO.out ⟨An, nn, cn, CN⟩ (by simp)).2 (HRO.out ⟨Aa, na, ca, CA⟩ (by simp)).1 (HRO.out ⟨An, nn, cn, CN⟩ (by simp)).1).mono fun e w' h => ok_of h (by rw [right_of HCA.out (by have := HNA.out; omega), right_of HCN.out (by have := HNA.out; have := HNB.out; have := HLCN.out; have := len_neg HCA.out; omega)]; rfl))
  refine H.out.mono ?_
  intro e w12 h
  clear H
  obtain ⟨At, nt, ct, hnn, rfl, ho, hb⟩ := made h (in_union HCA.out HCN.out) whole_cls (mem_all HCA.out HMCN.out) (by decide)
  have HNt := Lib.hid hnn
  clear hnn
  have HRO := Lib.hid ((HRO.out.below hb).add ho)
  have hb12 : Below B w0 w12 := hb11.trans (hb.mono hs11)
  have hs12 : B ≤ w12.heap.size := Nat.le_trans hB0 hb12.size
  clear h hb ho hb11 hs11
  go_wp2_with fail
  -- q
  have H := Lib.hid ((negate_any none 0 0 [] w12 Reads.none_).mono fun e w' h => ok_of h rfl)
  refine H.out.mono ?_
  intro e w13 h
  clear H
  obtain ⟨Aq, nq, cq, hnn, rfl, ho, hb⟩ := made h (neg_inr Cls.nil) whole_cls mem_whole (by decide)
  have HNq := Lib.hid hnn
  clear hnn
  have HRO := Lib.hid ((HRO.out.below hb).add ho)
  have hb13 : Below B w0 w13 := hb12.trans (hb.mono hs12)
  have hs13 : B ≤ w13.heap.size := Nat.le_trans hB0 hb13.size
  clear h hb ho hb12 hs12
  obtain rfl : nq = 2 := HNq.out.symm
  go_wp2_with fail
  -- Right a
  have H := Lib.hid (right_yes Aa na ca (l := CA) w13 (HRO.out ⟨Aa, na, ca, CA⟩ (by simp)).1 (right_of HCA.out (by have := HNA.out; omega)))
  refine H.out.mono ?_
  rintro e w14 ⟨rfl, hb⟩
  clear H
  have HRO := Lib.hid (HRO.out.below hb)
  have hb14 : Below B w0 w14 := hb13.trans (hb.mono hs13)
  have hs14 : B ≤ w14.heap.size := Nat.le_trans hB0 hb14.size
  clear hb hb13 hs13
  go_wp2_with fail
  -- Right u
  have H := Lib.hid (right_yes Au nu cu (l := CU) w14 (HRO.out ⟨Au, nu, cu, CU⟩ (by simp)).1 (right_of HCU.out (by have := HNA.out; have := HNB.out; have := HLCU.out; rw [len_union HCA.out HCB.out] at this; omega)))
  refine H.out.mono ?_
  rintro e w15 ⟨rfl, hb⟩
  clear H
  have HRO := Lib.hid (HRO.out.below hb)
  have hb15 : Below B w0 w15 := hb14.trans (hb.mono hs14)
  have hs15 : B ≤ w15.heap.size := Nat.le_trans hB0 hb15.size
  clear hb hb14 hs14
  go_wp2_with fail
  -- Right n
  have H := Lib.hid (right_yes An nn cn (l := CN) w15 (HRO.out ⟨An, nn, cn, CN⟩ (by simp)).1 (right_of HCN.out (by have := HNA.out; have := HNB.out; have := HLCN.out; have := len_neg HCA.out; omega)))
  refine H.out.mono ?_
  rintro e w16 ⟨rfl, hb⟩
  clear H
  have HRO := Lib.hid (HRO.out.below hb)
  have hb16 : Below B w0 w16 := hb15.trans (hb.mono hs15)
  have hs16 : B ≤ w16.heap.size := Nat.le_trans hB0 hb16.size
  clear hb hb15 hs15
  go_wp2_with fail
  -- Right p
  have H := Lib.hid (right_yes Ap np cp (l := CF) w16 (HRO.out ⟨Ap, np, cp, CF⟩ (by simp)).1 (right_of HCF.out (by have := HNA.out; have := HNB.out; have := HLCF.out; have := len_fold HCA.out; omega)))
  refine H.out.mono ?_
  rintro e w17 ⟨rfl, hb⟩
  clear H
  have HRO := Lib.hid (HRO.out.below hb)
  have hb17 : Below B w0 w17 := hb16.trans (hb.mono hs16)
  have hs17 : B ≤ w17.heap.size := Nat.le_trans hB0 hb17.size
  clear hb hb16 hs16
  go_wp2_with fail
  have H := Lib.hid (same_self Ag Aa ng cg na ca _ CA w17 (HRO.out ⟨Ag, ng, cg, CA⟩ (by simp)).1 (HRO.out ⟨Aa, na, ca, CA⟩ (by simp)).1)
  refine H.out.mono ?_
  rintro e w' ⟨rfl, m1, rfl⟩
  clear H
  obtain ⟨k1, hk⟩ : ∃ k, k = m1 := ⟨_, rfl⟩
  rw [← hk]
  clear hk
  go_wp2_with fail
  have H := Lib.hid (same_self Au Av nu cu nv cv _ CU (w17.drewN k1) ((HRO.out ⟨Au, nu, cu, CU⟩ (by simp)).1.drewN k1) ((HRO.out ⟨Av, nv, cv, CU⟩ (by simp)).1.drewN k1))
  refine H.out.mono ?_
  rintro e w' ⟨rfl, m2, rfl⟩
  clear H
  rw [World.drewN_drewN]
  obtain ⟨k2, hk⟩ : ∃ k, k = k1 + m2 := ⟨_, rfl⟩
  rw [← hk]
  clear hk
  go_wp2_with fail
  have H := Lib.hid (same_self Aw Aa nw cw na ca _ CA (w17.drewN k2) ((HRO.out ⟨Aw, nw, cw, CA⟩ (by simp)).1.drewN k2) ((HRO.out ⟨Aa, na, ca, CA⟩ (by simp)).1.drewN k2))
  refine H.out.mono ?_
  rintro e w' ⟨rfl, m3, rfl⟩
  clear H
  rw [World.drewN_drewN]
  obtain ⟨k3, hk⟩ : ∃ k, k = k2 + m3 := ⟨_, rfl⟩
  rw [← hk]
  clear hk
  go_wp2_with fail
  have H := Lib.hid (same_self Am Aa nm cm na ca _ CA (w17.drewN k3) ((HRO.out ⟨Am, nm, cm, CA⟩ (by simp)).1.drewN k3) ((HRO.out ⟨Aa, na, ca, CA⟩ (by simp)).1.drewN k3))
  refine H.out.mono ?_
  rintro e w' ⟨rfl, m4, rfl⟩
  clear H
  rw [World.drewN_drewN]
  obtain ⟨k4, hk⟩ : ∃ k, k = k3 + m4 := ⟨_, rfl⟩
  rw [← hk]
  clear hk
  go_wp2_with fail
  have H := Lib.hid (same_self Ar Ap nr cr np cp _ CF (w17.drewN k4) ((HRO.out ⟨Ar, nr, cr, CF⟩ (by simp)).1.drewN k4) ((HRO.out ⟨Ap, np, cp, CF⟩ (by simp)).1.drewN k4))
  refine H.out.mono ?_
  rintro e w' ⟨rfl, m5, rfl⟩
  clear H
  rw [World.drewN_drewN]
  obtain ⟨k5, hk⟩ : ∃ k, k = k4 + m5 := ⟨_, rfl⟩
  rw [← hk]
  clear hk
  go_wp2_with fail
  have H := Lib.hid (same_self At Aq nt ct 2 cq _ wholeR (w17.drewN k5) ((HRO.out ⟨At, nt, ct, wholeR⟩ (by simp)).1.drewN k5) ((HRO.out ⟨Aq, 2, cq, wholeR⟩ (by simp)).1.drewN k5))
  refine H.out.mono ?_
  rintro e w' ⟨rfl, m6, rfl⟩
  clear H
  rw [World.drewN_drewN]
  obtain ⟨k6, hk⟩ : ∃ k, k = k5 + m6 := ⟨_, rfl⟩
  rw [← hk]
  clear hk
  have HRO := Lib.hid (HRO.out.drewN k6)
  have hbD : Below B w0 (w17.drewN k6) := bdrewN hb17 k6
  have hsD : B ≤ (w17.drewN k6).heap.size := hs17
  clear hb17 hs17
  generalize w17.drewN k6 = W at *
  go_wp2_with fail
  obtain ⟨D, hDD⟩ : ∃ D, D = W.heap.size := ⟨_, rfl⟩
  have hD : D ≤ W.heap.size := by omega
  have hsD' : B ≤ D := by omega
  have HDD := Lib.hid hDD
  clear hDD
  have HNU := Lib.hid (show ∀ (u : World) (A' : Option Addr) (c' : Nat), D ≤ u.heap.size → u.ownsRow D 55 2 (.slice A' (n2 + n1) c') (n2 + n1) (flat (l2 ++ l1)) → Calls Tryd.prog 25 #[.slice A' (n2 + n1) c'] u fun e w' => ∃ A n c, CU.length = n ∧ e = .returned (.tuple #[.slice A n c, .int .i64 0]) ∧ w'.ownsRow u.heap.size 55 2 (.slice A n c) n (flat CU) ∧ Below u.heap.size u w' from fun u A' c' hu ho => by
    have hok : (l2 ++ l1).all okR = true := by rw [List.all_append, HOK1.out, HOK2.out]; rfl
    exact (norm_any A' (n2 + n1) c' (l2 ++ l1) u (Reads.of_own ho) (by omega)).mono fun e w' h => made (norm_ok h hok) (okR_in hok) HCU.out (mem_joined HMA.out HMB.out HMCU.out) (by have := HNA.out; have := HNB.out; have := HLCU.out; rw [len_union HCA.out HCB.out] at this; omega))
  have hv1 := CB1.out W hbD
  have hv2 := CB2.out W hbD
  have hbW : bx < W.heap.size := by omega
  have HBW := Lib.hid (show ∀ u, Below D W u → Below B w0 u from fun u h => hbD.trans (h.mono hsD'))
  have hE1 : Below D W (W.alloc (.cells #[] 55)).drew := (below_drew1 ((Below.refl _ _).alloc hD _))
  have hE0 : (W.alloc (.cells #[] 55)).drew.ownsRow D 55 2 (.slice (some ⟨W.heap.size, 0, none⟩) 0 0) 0 (flat []) := own_drewN (own_lit W D 55 2 0 #[] [] hD rfl rfl (by decide)) 1
  have k1 : W.drew.cell? ⟨bx, 0, none⟩ = some (.slice A1 n1 c1) ∧ W.drew.cell? ⟨bx, 1, none⟩ = some (.slice A2 n2 c2) := ⟨hv1, hv2⟩
  have k2 : (W.alloc (.cells #[] 55)).drew.cell? ⟨bx, 0, none⟩ = some (.slice A1 n1 c1) ∧ (W.alloc (.cells #[] 55)).drew.cell? ⟨bx, 1, none⟩ = some (.slice A2 n2 c2) := ⟨CB1.out _ (HBW.out _ hE1), CB2.out _ (HBW.out _ hE1)⟩
  have HE0 := Lib.hid hE0
  have HE1 := Lib.hid hE1
  clear hE0 hE1 hv1 hv2
  go_region_held_law (fun w' => w'.cell? ⟨bx, 0, none⟩ = some (.slice A1 n1 c1) ∧ w'.cell? ⟨bx, 1, none⟩ = some (.slice A2 n2 c2)) (first | exact k1 | exact k2 | exact k3 | exact k4 | exact k5) (first
    | (refine step_append_reads rfl (.tmp 201) (.tmp 203) 42 rfl D 55 i0 _ 2 16 Tryd.underlying42 hi hq0 hq1 hq2 rfl (by decide) _ 0 (flat []) rfl HE0.out A2 B n2 c2 (flat l2) rfl HZ2.out (HR2.out.below (HBW.out _ HE1.out)) (flat_one l2) (by unfold maxLen; omega) (by omega) (Nat.le_trans hD HE1.out.size) ?_; intro Aq1 cq1 wq1 ha1; have HF1 := Lib.hid (HE1.out.grown ha1.grown (Nat.le_trans hD HE1.out.size) (fun k hk => (HE0.out.lt k hk).1)); have k3 : wq1.cell? ⟨bx, 0, none⟩ = some (.slice A1 n1 c1) ∧ wq1.cell? ⟨bx, 1, none⟩ = some (.slice A2 n2 c2) := ⟨CB1.out _ (HBW.out _ HF1.out), CB2.out _ (HBW.out _ HF1.out)⟩; have HO1 := Lib.hid ha1.own)
    | (refine step_append_reads rfl (.tmp 204) (.tmp 206) 42 rfl D 55 i0 _ 2 16 Tryd.underlying42 hi hq0 hq1 hq2 rfl (by decide) _ (0 + n2) (flat [] ++ flat l2) rfl HO1.out A1 B n1 c1 (flat l1) rfl HZ1.out (HR1.out.below (HBW.out _ HF1.out)) (flat_one l1) (by unfold maxLen; omega) (by omega) (Nat.le_trans hD HF1.out.size) ?_; intro Aq2 cq2 wq2 ha2; have HF2 := Lib.hid (HF1.out.grown ha2.grown (Nat.le_trans hD HF1.out.size) (fun k hk => (HO1.out.lt k hk).1)); have k4 : wq2.cell? ⟨bx, 0, none⟩ = some (.slice A1 n1 c1) ∧ wq2.cell? ⟨bx, 1, none⟩ = some (.slice A2 n2 c2) := ⟨CB1.out _ (HBW.out _ HF2.out), CB2.out _ (HBW.out _ HF2.out)⟩; have HO2 := Lib.hid (show wq2.ownsRow D 55 2 (.slice Aq2 (n2 + n1) cq2) (n2 + n1) (flat (l2 ++ l1)) from by have h := ha2.own; rw [Nat.zero_add] at h; rw [flat_append]; exact h))
    | (go_simp; (first | with_reducible refine (HNU.out wq2 Aq2 cq2 (Nat.le_trans hD HF2.out.size) HO2.out).mono ?_); rintro e wq3 ⟨Aj, nj, cj, hnj, rfl, hoj, hbj⟩; have HF3 := Lib.hid (HF2.out.trans (hbj.mono (Nat.le_trans hD HF2.out.size))); have k5 : wq3.cell? ⟨bx, 0, none⟩ = some (.slice A1 n1 c1) ∧ wq3.cell? ⟨bx, 1, none⟩ = some (.slice A2 n2 c2) := ⟨CB1.out _ (HBW.out _ HF3.out), CB2.out _ (HBW.out _ HF3.out)⟩; have HOJ := Lib.hid hoj; have HBJ := Lib.hid hbj; clear hnj hoj hbj))
  go_wp2_with fail
  have hro := HRO.out ⟨Au, nu, cu, CU⟩ (by simp)
  have hbl3 : Below W.heap.size W wq3 := by have := HF3.out; rw [HDD.out] at this; exact this
  have H := Lib.hid (same_self Aj Au nj cj nu cu _ CU wq3 (Reads.of_own HOJ.out) ((hro.1.below hbl3).more hbl3.size))
  refine H.out.mono ?_
  rintro e w' ⟨rfl, mz, rfl⟩
  clear H hro
  have HEND := HFIN.out _ (bdrewN (HBW.out _ HF3.out) mz)
  go_wp2_with fail
  go_ret
  exact ⟨rfl, HEND⟩
end Go.Proofs.YtgljhhlnnedmaaaDoor
