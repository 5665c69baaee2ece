/- RunesCuts: the walk of the law. -/
import Derived.Test.YtgljhhlnnedmaaaDoorAwake
import Derived.Test.YtgljhhlnnedmaaaDoorRefCut
import Derived.Test.YtgljhhlnnedmaaaDoorSameInts
import Derived.Test.YtgljhhlnnedmaaaDoorBack
import Derived.Test.YtgljhhlnnedmaaaDoorRowsOK
namespace Go.Proofs.YtgljhhlnnedmaaaDoor
open Go.RowKit

theorem cutRunes_len (bs : List Int) : (cutRunes bs).length ≤ bs.length := by
  have := cutSt_bd bs bs.length
  unfold cutRunes; omega
theorem cutPlaces_len (bs : List Int) : (cutPlaces bs).length ≤ bs.length + 1 := by
  have := cutSt_bd bs bs.length
  unfold cutPlaces
  rw [List.length_append, List.length_singleton]; omega

set_option maxRecDepth 100000 in
set_option maxHeartbeats 4000000 in
theorem cuts_walk (A A' : Option Addr) (n c n' c' : Nat) (bs bs' : List Int) (w : World) (hr : Reads w w.heap.size 1 A n c (bs.map (Value.int .u8))) (hr' : Reads w w.heap.size 1 A' n' c' (bs'.map (Value.int .u8)))
    (hbs : ∀ b ∈ bs, 0 ≤ b ∧ b ≤ 255) (hbs' : ∀ b ∈ bs', 0 ≤ b ∧ b ≤ 255) (hn : n ≤ 1048576) (hn' : n' ≤ 1048576) (hL : LeadsIn w) :
    Calls Tryd.prog 4 #[.slice A n c, .slice A' n' c'] w fun e w' => e = .returned (.bool true) ∧ Below w.heap.size w w' := by
  obtain ⟨B, hB⟩ : ∃ B, B = w.heap.size := ⟨_, rfl⟩
  rw [← hB] at hr hr'
  have hg0 : 0 < B := by
    obtain ⟨t, fr, h⟩ := hL
    rw [hB]; exact (Array.getElem?_eq_some_iff.1 h).1
  rw [← hB]
  have hB0 : B ≤ w.heap.size := by omega
  have hlen : bs.length = n := by have := hr.len; simpa using this
  have hlen' : bs'.length = n' := by have := hr'.len; simpa using this
  have HLEN := Lib.hid hlen
  have HLEN' := Lib.hid hlen'
  have HBS := Lib.hid hbs
  have HBS' := Lib.hid hbs'
  have HR := Lib.hid hr
  have HR' := Lib.hid hr'
  have HL := Lib.hid hL
  have hcap := hr.cap
  have hnc := hr.le
  have HA := Lib.hid (awake_any w hL (by omega))
  clear hB hlen hlen' hbs hbs' hr hr' hL
  go_enter Tryd.func4, Tryd.ntmps4
  go_wp2_with fail
  refine HA.out.mono ?_
  rintro e w1 ⟨rfl, hb1⟩
  have hb1 : Below B w w1 := hb1.mono hB0
  have hs1 : B ≤ w1.heap.size := Nat.le_trans hB0 hb1.size
  -- lent
  go_wp2_with fail
  have H := Lib.hid (lent_any A n c B bs w1 (HR.out.below hb1) hs1 hn)
  refine H.out.mono ?_
  rintro e w2 ⟨rfl, hk2, hb2'⟩
  clear H
  obtain ⟨G, hG⟩ : ∃ G, G = w1.heap.size := ⟨_, rfl⟩
  rw [← hG] at hk2 hb2' ⊢
  have hBG : B ≤ G := by omega
  have hb2 : Below B w w2 := hb1.trans (hb2'.mono hBG)
  have hs2 : B ≤ w2.heap.size := Nat.le_trans hB0 hb2.size
  have hG2 : G < w2.heap.size := hk2.lt
  clear hG hb2'
  obtain ⟨M, hM⟩ : ∃ M, M = (bs ++ [201, 201, 201, 201, 201]) := ⟨_, rfl⟩
  rw [← hM] at hk2
  have HM := Lib.hid hM
  have hMl : M.length = n + 5 := by rw [hM, List.length_append, HLEN.out]; rfl
  have HML := Lib.hid hMl
  clear hM hMl
  have htk : (bs ++ [201, 201, 201, 201, 201]).take n = bs := by rw [← HLEN.out]; exact List.take_left
  have HIN := Lib.hid (show ∀ u : World, Blk u G 5 (M.map (Value.int .u8)) → Reads u u.heap.size 1 (some ⟨G, 0, none⟩) n (n + 5) (bs.map (Value.int .u8)) from fun u hu => by
    have := hu.reads (size := 1) (n := n) (c := n + 5) (by omega) (by omega) (by rw [List.length_map, HML.out]; omega)
    rwa [Nat.mul_one, ← List.map_take, HM.out, htk] at this)
  have HIN' := Lib.hid (show ∀ u : World, Blk u G 5 ((M.map x33).map (Value.int .u8)) → Reads u u.heap.size 1 (some ⟨G, 0, none⟩) n (n + 5) ((bs.map x33).map (Value.int .u8)) from fun u hu => by
    have := hu.reads (size := 1) (n := n) (c := n + 5) (by omega) (by omega) (by rw [List.length_map, List.length_map, HML.out]; omega)
    rwa [Nat.mul_one, ← List.map_take, ← List.map_take, HM.out, htk] at this)
  clear htk
  have HXB := Lib.hid (show ∀ b ∈ bs.map x33, 0 ≤ b ∧ b ≤ 255 from fun b hb => by
    obtain ⟨a, ha, rfl⟩ := List.mem_map.1 hb
    exact x33_bd (HBS.out a ha).1 (HBS.out a ha).2)
  -- Decode
  go_wp2_with fail
  have H := decode_any (some ⟨G, 0, none⟩) n (n + 5) bs w2 (HIN.out w2 hk2) HBS.out (HL.out.below hb2 hg0)
  unfold DecodePost at H
  have H := Lib.hid H
  refine H.out.mono ?_
  rintro e w3 ⟨rfl, hb⟩
  clear H
  have hb3 : Below B w w3 := hb2.trans (hb.mono hs2)
  have hs3 : B ≤ w3.heap.size := Nat.le_trans hB0 hb3.size
  have hk3 := hk2.below hb hG2
  have hG3 : G < w3.heap.size := hk3.lt
  clear hb hb2 hs2 hk2 hG2
  have hro3 : RowsOK B w3 [] := RowsOK.nil
  go_wp2_with fail
  have H := Lib.hid (cut_any (some ⟨G, 0, none⟩) n (n + 5) bs w3 (HIN.out w3 hk3) HBS.out (HL.out.below hb3 hg0) hn (by omega))
  refine H.out.mono ?_
  rintro e w4 ⟨u, v, rfl, hu, hv, hap, hb⟩
  clear H
  obtain ⟨Al, cl, rfl⟩ := own_shape hu
  obtain ⟨Ap, cp, rfl⟩ := own_shape hv
  have hro4 : RowsOK B w4 [⟨.slice Al (cutRunes bs).length cl, cutRunes bs⟩, ⟨.slice Ap (cutPlaces bs).length cp, cutPlaces bs⟩] := hro3.add hs3 hb hu hv hap
  obtain ⟨Ll, hLl⟩ : ∃ L, L = (cutRunes bs).length := ⟨_, rfl⟩
  obtain ⟨Lp, hLp⟩ : ∃ L, L = (cutPlaces bs).length := ⟨_, rfl⟩
  rw [← hLl, ← hLp] at hro4 ⊢
  have HLl := Lib.hid hLl
  have HLp := Lib.hid hLp
  have hb4 : Below B w w4 := hb3.trans (hb.mono hs3)
  have hs4 : B ≤ w4.heap.size := Nat.le_trans hB0 hb4.size
  have hk4 := hk3.below hb hG3
  have hG4 : G < w4.heap.size := hk4.lt
  clear hb hb3 hs3 hk3 hG3 hro3 hu hv hap hLl hLp
  go_wp2_with fail
  have H := Lib.hid (cut_any A' n' c' bs' w4 ((HR'.out.below hb4).more hs4) HBS'.out (HL.out.below hb4 hg0) hn' (by omega))
  refine H.out.mono ?_
  rintro e w5 ⟨u, v, rfl, hu, hv, hap, hb⟩
  clear H
  obtain ⟨Am, cm, rfl⟩ := own_shape hu
  obtain ⟨Aq, cq, rfl⟩ := own_shape hv
  have hro5 : RowsOK B w5 [⟨.slice Al Ll cl, cutRunes bs⟩, ⟨.slice Ap Lp cp, cutPlaces bs⟩, ⟨.slice Am (cutRunes bs').length cm, cutRunes bs'⟩, ⟨.slice Aq (cutPlaces bs').length cq, cutPlaces bs'⟩] := hro4.add hs4 hb hu hv hap
  obtain ⟨Lm, hLm⟩ : ∃ L, L = (cutRunes bs').length := ⟨_, rfl⟩
  obtain ⟨Lq, hLq⟩ : ∃ L, L = (cutPlaces bs').length := ⟨_, rfl⟩
  rw [← hLm, ← hLq] at hro5 ⊢
  have HLm := Lib.hid hLm
  have HLq := Lib.hid hLq
  have hb5 : Below B w w5 := hb4.trans (hb.mono hs4)
  have hs5 : B ≤ w5.heap.size := Nat.le_trans hB0 hb5.size
  have hk5 := hk4.below hb hG4
  have hG5 : G < w5.heap.size := hk5.lt
  clear hb hb4 hs4 hk4 hG4 hro4 hu hv hap hLm hLq
  go_wp2_with fail
  have H := Lib.hid (cut_any (some ⟨G, 0, none⟩) n (n + 5) bs w5 (HIN.out w5 hk5) HBS.out (HL.out.below hb5 hg0) hn (by omega))
  refine H.out.mono ?_
  rintro e w6 ⟨u, v, rfl, hu, hv, hap, hb⟩
  clear H
  obtain ⟨Ao, co, rfl⟩ := own_shape hu
  obtain ⟨As, cs, rfl⟩ := own_shape hv
  have hro6 : RowsOK B w6 [⟨.slice Al Ll cl, cutRunes bs⟩, ⟨.slice Ap Lp cp, cutPlaces bs⟩, ⟨.slice Am Lm cm, cutRunes bs'⟩, ⟨.slice Aq Lq cq, cutPlaces bs'⟩, ⟨.slice Ao (cutRunes bs).length co, cutRunes bs⟩, ⟨.slice As (cutPlaces bs).length cs, cutPlaces bs⟩] := hro5.add hs5 hb hu hv hap
  obtain ⟨Lo, hLo⟩ : ∃ L, L = (cutRunes bs).length := ⟨_, rfl⟩
  obtain ⟨Ls, hLs⟩ : ∃ L, L = (cutPlaces bs).length := ⟨_, rfl⟩
  rw [← hLo, ← hLs] at hro6 ⊢
  have HLo := Lib.hid hLo
  have HLs := Lib.hid hLs
  have hb6 : Below B w w6 := hb5.trans (hb.mono hs5)
  have hs6 : B ≤ w6.heap.size := Nat.le_trans hB0 hb6.size
  have hk6 := hk5.below hb hG5
  have hG6 : G < w6.heap.size := hk6.lt
  clear hb hb5 hs5 hk5 hG5 hro5 hu hv hap hLo hLs
  -- back
  go_wp2_with fail
  have H := Lib.hid (back_any A n c B G bs w6 (HR.out.below hb6) hn hBG hs6 (by rw [← HM.out]; exact hk6))
  rw [← HM.out] at H
  refine H.out.mono ?_
  rintro e w7 ⟨rfl, hk7, hgr⟩
  clear H
  have hb7 : Below B w w7 := hb6.grown hgr hs6 (fun k hk => by cases hk; exact hBG)
  have hs7 : B ≤ w7.heap.size := Nat.le_trans hB0 hb7.size
  have hG7 : G < w7.heap.size := hk7.lt
  have hro7 : RowsOK B w7 [⟨.slice Al Ll cl, cutRunes bs⟩, ⟨.slice Ap Lp cp, cutPlaces bs⟩, ⟨.slice Am Lm cm, cutRunes bs'⟩, ⟨.slice Aq Lq cq, cutPlaces bs'⟩, ⟨.slice Ao Lo co, cutRunes bs⟩, ⟨.slice As Ls cs, cutPlaces bs⟩] := hro6.grown hk6 (by decide) hgr
  clear hgr hb6 hs6 hk6 hG6 hro6
  go_wp2_with fail
  have H := Lib.hid (cut_any (some ⟨G, 0, none⟩) n (n + 5) (bs.map x33) w7 (HIN'.out w7 hk7) HXB.out (HL.out.below hb7 hg0) hn (by omega))
  refine H.out.mono ?_
  rintro e w8 ⟨u, v, rfl, hu, hv, hap, hb⟩
  clear H
  obtain ⟨Au, cu, rfl⟩ := own_shape hu
  obtain ⟨Av, cv, rfl⟩ := own_shape hv
  have hro8 : RowsOK B w8 [⟨.slice Al Ll cl, cutRunes bs⟩, ⟨.slice Ap Lp cp, cutPlaces bs⟩, ⟨.slice Am Lm cm, cutRunes bs'⟩, ⟨.slice Aq Lq cq, cutPlaces bs'⟩, ⟨.slice Ao Lo co, cutRunes bs⟩, ⟨.slice As Ls cs, cutPlaces bs⟩, ⟨.slice Au (cutRunes (bs.map x33)).length cu, cutRunes (bs.map x33)⟩, ⟨.slice Av (cutPlaces (bs.map x33)).length cv, cutPlaces (bs.map x33)⟩] := hro7.add hs7 hb hu hv hap
  obtain ⟨Lu, hLu⟩ : ∃ L, L = (cutRunes (bs.map x33)).length := ⟨_, rfl⟩
  obtain ⟨Lv, hLv⟩ : ∃ L, L = (cutPlaces (bs.map x33)).length := ⟨_, rfl⟩
  rw [← hLu, ← hLv] at hro8 ⊢
  have HLu := Lib.hid hLu
  have HLv := Lib.hid hLv
  have hb8 : Below B w w8 := hb7.trans (hb.mono hs7)
  have hs8 : B ≤ w8.heap.size := Nat.le_trans hB0 hb8.size
  have hk8 := hk7.below hb hG7
  have hG8 : G < w8.heap.size := hk8.lt
  clear hb hb7 hs7 hk7 hG7 hro7 hu hv hap hLu hLv
  -- the document's Decode
  go_wp2_with fail
  have H := refDecode_any A n c bs w8 ((HR.out.below hb8).more hs8) HBS.out
  unfold RefDecodePost at H
  rw [← dec_eq HBS.out] at H
  have H := Lib.hid H
  refine H.out.mono ?_
  rintro e w9 ⟨rfl, hb⟩
  clear H
  have hb9 : Below B w w9 := hb8.trans (hb.mono hs8)
  have hs9 : B ≤ w9.heap.size := Nat.le_trans hB0 hb9.size
  have hk9 := hk8.below hb hG8
  have hG9 : G < w9.heap.size := hk9.lt
  have hro9 : RowsOK B w9 [⟨.slice Al Ll cl, cutRunes bs⟩, ⟨.slice Ap Lp cp, cutPlaces bs⟩, ⟨.slice Am Lm cm, cutRunes bs'⟩, ⟨.slice Aq Lq cq, cutPlaces bs'⟩, ⟨.slice Ao Lo co, cutRunes bs⟩, ⟨.slice As Ls cs, cutPlaces bs⟩, ⟨.slice Au Lu cu, cutRunes (bs.map x33)⟩, ⟨.slice Av Lv cv, cutPlaces (bs.map x33)⟩] := hro8.below hb
  clear hb hb8 hs8 hk8 hG8 hro8
  go_wp2_with fail
  have H := Lib.hid (refCut_any A n c bs w9 ((HR.out.below hb9).more hs9) HBS.out hn)
  refine H.out.mono ?_
  rintro e w10 ⟨u, v, rfl, hu, hv, hap, hb⟩
  clear H
  obtain ⟨Al1, cl1, rfl⟩ := own_shape hu
  obtain ⟨Ap1, cp1, rfl⟩ := own_shape hv
  have hro10 : RowsOK B w10 [⟨.slice Al Ll cl, cutRunes bs⟩, ⟨.slice Ap Lp cp, cutPlaces bs⟩, ⟨.slice Am Lm cm, cutRunes bs'⟩, ⟨.slice Aq Lq cq, cutPlaces bs'⟩, ⟨.slice Ao Lo co, cutRunes bs⟩, ⟨.slice As Ls cs, cutPlaces bs⟩, ⟨.slice Au Lu cu, cutRunes (bs.map x33)⟩, ⟨.slice Av Lv cv, cutPlaces (bs.map x33)⟩, ⟨.slice Al1 (cutRunes bs).length cl1, cutRunes bs⟩, ⟨.slice Ap1 (cutPlaces bs).length cp1, cutPlaces bs⟩] := hro9.add hs9 hb hu hv hap
  obtain ⟨Ll1, hLl1⟩ : ∃ L, L = (cutRunes bs).length := ⟨_, rfl⟩
  obtain ⟨Lp1, hLp1⟩ : ∃ L, L = (cutPlaces bs).length := ⟨_, rfl⟩
  rw [← hLl1, ← hLp1] at hro10 ⊢
  have HLl1 := Lib.hid hLl1
  have HLp1 := Lib.hid hLp1
  have hb10 : Below B w w10 := hb9.trans (hb.mono hs9)
  have hs10 : B ≤ w10.heap.size := Nat.le_trans hB0 hb10.size
  have hk10 := hk9.below hb hG9
  have hG10 : G < w10.heap.size := hk10.lt
  clear hb hb9 hs9 hk9 hG9 hro9 hu hv hap hLl1 hLp1
  go_wp2_with fail
  have H := Lib.hid (refCut_any A' n' c' bs' w10 ((HR'.out.below hb10).more hs10) HBS'.out hn')
  refine H.out.mono ?_
  rintro e w11 ⟨u, v, rfl, hu, hv, hap, hb⟩
  clear H
  obtain ⟨Am1, cm1, rfl⟩ := own_shape hu
  obtain ⟨Aq1, cq1, rfl⟩ := own_shape hv
  have hro11 : RowsOK B w11 [⟨.slice Al Ll cl, cutRunes bs⟩, ⟨.slice Ap Lp cp, cutPlaces bs⟩, ⟨.slice Am Lm cm, cutRunes bs'⟩, ⟨.slice Aq Lq cq, cutPlaces bs'⟩, ⟨.slice Ao Lo co, cutRunes bs⟩, ⟨.slice As Ls cs, cutPlaces bs⟩, ⟨.slice Au Lu cu, cutRunes (bs.map x33)⟩, ⟨.slice Av Lv cv, cutPlaces (bs.map x33)⟩, ⟨.slice Al1 Ll1 cl1, cutRunes bs⟩, ⟨.slice Ap1 Lp1 cp1, cutPlaces bs⟩, ⟨.slice Am1 (cutRunes bs').length cm1, cutRunes bs'⟩, ⟨.slice Aq1 (cutPlaces bs').length cq1, cutPlaces bs'⟩] := hro10.add hs10 hb hu hv hap
  obtain ⟨Lm1, hLm1⟩ : ∃ L, L = (cutRunes bs').length := ⟨_, rfl⟩
  obtain ⟨Lq1, hLq1⟩ : ∃ L, L = (cutPlaces bs').length := ⟨_, rfl⟩
  rw [← hLm1, ← hLq1] at hro11 ⊢
  have HLm1 := Lib.hid hLm1
  have HLq1 := Lib.hid hLq1
  have hb11 : Below B w w11 := hb10.trans (hb.mono hs10)
  have hs11 : B ≤ w11.heap.size := Nat.le_trans hB0 hb11.size
  have hk11 := hk10.below hb hG10
  have hG11 : G < w11.heap.size := hk11.lt
  clear hb hb10 hs10 hk10 hG10 hro10 hu hv hap hLm1 hLq1
  go_wp2_with fail
  have H := Lib.hid (refCut_any (some ⟨G, 0, none⟩) n (n + 5) (bs.map x33) w11 (HIN'.out w11 hk11) HXB.out hn)
  refine H.out.mono ?_
  rintro e w12 ⟨u, v, rfl, hu, hv, hap, hb⟩
  clear H
  obtain ⟨Au1, cu1, rfl⟩ := own_shape hu
  obtain ⟨Av1, cv1, rfl⟩ := own_shape hv
  have hro12 : RowsOK B w12 [⟨.slice Al Ll cl, cutRunes bs⟩, ⟨.slice Ap Lp cp, cutPlaces bs⟩, ⟨.slice Am Lm cm, cutRunes bs'⟩, ⟨.slice Aq Lq cq, cutPlaces bs'⟩, ⟨.slice Ao Lo co, cutRunes bs⟩, ⟨.slice As Ls cs, cutPlaces bs⟩, ⟨.slice Au Lu cu, cutRunes (bs.map x33)⟩, ⟨.slice Av Lv cv, cutPlaces (bs.map x33)⟩, ⟨.slice Al1 Ll1 cl1, cutRunes bs⟩, ⟨.slice Ap1 Lp1 cp1, cutPlaces bs⟩, ⟨.slice Am1 Lm1 cm1, cutRunes bs'⟩, ⟨.slice Aq1 Lq1 cq1, cutPlaces bs'⟩, ⟨.slice Au1 (cutRunes (bs.map x33)).length cu1, cutRunes (bs.map x33)⟩, ⟨.slice Av1 (cutPlaces (bs.map x33)).length cv1, cutPlaces (bs.map x33)⟩] := hro11.add hs11 hb hu hv hap
  obtain ⟨Lu1, hLu1⟩ : ∃ L, L = (cutRunes (bs.map x33)).length := ⟨_, rfl⟩
  obtain ⟨Lv1, hLv1⟩ : ∃ L, L = (cutPlaces (bs.map x33)).length := ⟨_, rfl⟩
  rw [← hLu1, ← hLv1] at hro12 ⊢
  have HLu1 := Lib.hid hLu1
  have HLv1 := Lib.hid hLv1
  have hb12 : Below B w w12 := hb11.trans (hb.mono hs11)
  have hs12 : B ≤ w12.heap.size := Nat.le_trans hB0 hb12.size
  have hk12 := hk11.below hb hG11
  have hG12 : G < w12.heap.size := hk12.lt
  clear hb hb11 hs11 hk11 hG11 hro11 hu hv hap hLu1 hLv1
  have HRO := Lib.hid hro12
  clear hro12
  have Rl := Lib.hid (HRO.out.reads (A := Al) (n := Ll) (c := cl) (xs := cutRunes bs) (by simp) HLl.out)
  have Rp := Lib.hid (HRO.out.reads (A := Ap) (n := Lp) (c := cp) (xs := cutPlaces bs) (by simp) HLp.out)
  have Rm := Lib.hid (HRO.out.reads (A := Am) (n := Lm) (c := cm) (xs := cutRunes bs') (by simp) HLm.out)
  have Rq := Lib.hid (HRO.out.reads (A := Aq) (n := Lq) (c := cq) (xs := cutPlaces bs') (by simp) HLq.out)
  have Ro := Lib.hid (HRO.out.reads (A := Ao) (n := Lo) (c := co) (xs := cutRunes bs) (by simp) HLo.out)
  have Rs := Lib.hid (HRO.out.reads (A := As) (n := Ls) (c := cs) (xs := cutPlaces bs) (by simp) HLs.out)
  have Ru := Lib.hid (HRO.out.reads (A := Au) (n := Lu) (c := cu) (xs := cutRunes (bs.map x33)) (by simp) HLu.out)
  have Rv := Lib.hid (HRO.out.reads (A := Av) (n := Lv) (c := cv) (xs := cutPlaces (bs.map x33)) (by simp) HLv.out)
  have Rl1 := Lib.hid (HRO.out.reads (A := Al1) (n := Ll1) (c := cl1) (xs := cutRunes bs) (by simp) HLl1.out)
  have Rp1 := Lib.hid (HRO.out.reads (A := Ap1) (n := Lp1) (c := cp1) (xs := cutPlaces bs) (by simp) HLp1.out)
  have Rm1 := Lib.hid (HRO.out.reads (A := Am1) (n := Lm1) (c := cm1) (xs := cutRunes bs') (by simp) HLm1.out)
  have Rq1 := Lib.hid (HRO.out.reads (A := Aq1) (n := Lq1) (c := cq1) (xs := cutPlaces bs') (by simp) HLq1.out)
  have Ru1 := Lib.hid (HRO.out.reads (A := Au1) (n := Lu1) (c := cu1) (xs := cutRunes (bs.map x33)) (by simp) HLu1.out)
  have Rv1 := Lib.hid (HRO.out.reads (A := Av1) (n := Lv1) (c := cv1) (xs := cutPlaces (bs.map x33)) (by simp) HLv1.out)
  have SAME := Lib.hid (show ∀ (X Y : Option Addr) (a b d f : Nat) (xs : List Int) (k : Nat), Reads w12 w12.heap.size 1 X a b (xs.map (Value.int .i64)) → Reads w12 w12.heap.size 1 Y d f (xs.map (Value.int .i64)) → Calls Tryd.prog 17 #[.slice X a b, .slice Y d f] (w12.drewN k) fun e w' => e = .returned (.bool true) ∧ ∃ m, w12.drewN m = w' from fun X Y a b d f xs k h1 h2 => (sameInts_any X Y a b d f _ xs xs (w12.drewN k) (h1.drewN k) (h2.drewN k)).mono fun e w' ⟨he, m, hw⟩ => ⟨by rw [he]; simp, k + m, by rw [← hw, World.drewN_drewN]⟩)
  go_wp2_with fail
  refine (SAME.out Al Al1 Ll cl Ll1 cl1 _ 0 Rl.out Rl1.out).mono ?_
  rintro e w' ⟨rfl, k1, rfl⟩
  go_wp2_with fail
  refine (SAME.out Ap Ap1 Lp cp Lp1 cp1 _ k1 Rp.out Rp1.out).mono ?_
  rintro e w' ⟨rfl, k2, rfl⟩
  go_wp2_with fail
  refine (SAME.out Am Am1 Lm cm Lm1 cm1 _ k2 Rm.out Rm1.out).mono ?_
  rintro e w' ⟨rfl, k3, rfl⟩
  go_wp2_with fail
  refine (SAME.out Aq Aq1 Lq cq Lq1 cq1 _ k3 Rq.out Rq1.out).mono ?_
  rintro e w' ⟨rfl, k4, rfl⟩
  go_wp2_with fail
  refine (SAME.out Ao Al1 Lo co Ll1 cl1 _ k4 Ro.out Rl1.out).mono ?_
  rintro e w' ⟨rfl, k5, rfl⟩
  go_wp2_with fail
  refine (SAME.out As Ap1 Ls cs Lp1 cp1 _ k5 Rs.out Rp1.out).mono ?_
  rintro e w' ⟨rfl, k6, rfl⟩
  go_wp2_with fail
  refine (SAME.out Au Au1 Lu cu Lu1 cu1 _ k6 Ru.out Ru1.out).mono ?_
  rintro e w' ⟨rfl, k7, rfl⟩
  go_wp2_with fail
  refine (SAME.out Av Av1 Lv cv Lv1 cv1 _ k7 Rv.out Rv1.out).mono ?_
  rintro e w' ⟨rfl, k8, rfl⟩
  have hne1 : ((dec bs).1 != (dec bs).1) = false := by simp
  have hne2 : ((dec bs).2 != (dec bs).2) = false := by simp
  go_wp2_with fail
  have hro8 : RowsOK B (w12.drewN k8) [⟨.slice Al Ll cl, cutRunes bs⟩, ⟨.slice Ap Lp cp, cutPlaces bs⟩, ⟨.slice Am Lm cm, cutRunes bs'⟩, ⟨.slice Aq Lq cq, cutPlaces bs'⟩, ⟨.slice Ao Lo co, cutRunes bs⟩, ⟨.slice As Ls cs, cutPlaces bs⟩, ⟨.slice Au Lu cu, cutRunes (bs.map x33)⟩, ⟨.slice Av Lv cv, cutPlaces (bs.map x33)⟩] := (RowsOK.sub (L2 := [⟨.slice Al1 Ll1 cl1, cutRunes bs⟩, ⟨.slice Ap1 Lp1 cp1, cutPlaces bs⟩, ⟨.slice Am1 Lm1 cm1, cutRunes bs'⟩, ⟨.slice Aq1 Lq1 cq1, cutPlaces bs'⟩, ⟨.slice Au1 Lu1 cu1, cutRunes (bs.map x33)⟩, ⟨.slice Av1 Lv1 cv1, cutPlaces (bs.map x33)⟩]) HRO.out).drewN k8
  have hbd : Below B w (w12.drewN k8) := bdrewN hb12 k8
  have hsd : B ≤ (w12.drewN k8).heap.size := hs12
  have H := ownInts_rows (w12.drewN k8).heap.size B [⟨.slice Al Ll cl, cutRunes bs⟩, ⟨.slice Ap Lp cp, cutPlaces bs⟩, ⟨.slice Am Lm cm, cutRunes bs'⟩, ⟨.slice Aq Lq cq, cutPlaces bs'⟩, ⟨.slice Ao Lo co, cutRunes bs⟩, ⟨.slice As Ls cs, cutPlaces bs⟩, ⟨.slice Au Lu cu, cutRunes (bs.map x33)⟩, ⟨.slice Av Lv cv, cutPlaces (bs.map x33)⟩] ((w12.drewN k8).alloc (.cells #[.slice Al Ll cl, .slice Ap Lp cp, .slice Am Lm cm, .slice Aq Lq cq, .slice Ao Lo co, .slice As Ls cs, .slice Au Lu cu, .slice Av Lv cv] 29)) (by simp) (by
    intro r hr
    have e1 := cutRunes_len bs
    have e2 := cutPlaces_len bs
    have e3 := cutRunes_len bs'
    have e4 := cutPlaces_len bs'
    have e5 := cutRunes_len (bs.map x33)
    have e6 := cutPlaces_len (bs.map x33)
    have g1 := HLEN.out
    have g2 := HLEN'.out
    rw [List.length_map] at e5 e6
    simp only [List.mem_cons, List.not_mem_nil, or_false] at hr
    rcases hr with rfl | rfl | rfl | rfl | rfl | rfl | rfl | rfl <;> simp only [] <;> omega) (by simp; omega) (Blk.new _ _ [.slice Al Ll cl, .slice Ap Lp cp, .slice Am Lm cm, .slice Aq Lq cq, .slice Ao Lo co, .slice As Ls cs, .slice Au Lu cu, .slice Av Lv cv]) (hro8.alloc _)
  refine H.mono ?_
  rintro e w' ⟨rfl, hb⟩
  have hbe : Below B w w' := (hbd.alloc hsd _).trans hb
  clear H hb hro8 hbd hsd
  go_wp2_with fail
  go_ret
  exact ⟨rfl, hbe⟩
end Go.Proofs.YtgljhhlnnedmaaaDoor
