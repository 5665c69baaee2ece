/- RunesBack: the walk of the law. -/
import Derived.Test.YtgljhhlnnedmaaaDoorAwake
import Derived.Test.YtgljhhlnnedmaaaDoorSameInts
import Derived.Test.YtgljhhlnnedmaaaDoorBackPlain
import Derived.Test.YtgljhhlnnedmaaaDoorEncode
namespace Go.Proofs.YtgljhhlnnedmaaaDoor
open Go.RowKit

set_option maxRecDepth 100000 in
set_option maxHeartbeats 4000000 in
theorem back_walk (A : Option Addr) (n c : Nat) (l : List Int) (w : World) (hr : Reads w w.heap.size 1 A n c (l.map (Value.int .i64))) (hn : n ≤ 1048576) (hL : LeadsIn w) :
    Calls Tryd.prog 5 #[.slice A n c] w fun e w' => e = .returned (.bool true) ∧ Below w.heap.size w w' := by
  obtain ⟨B, hB⟩ : ∃ B, B = w.heap.size := ⟨_, rfl⟩
  rw [← hB] at hr
  have hg0 : 0 < B := by
    obtain ⟨t, fr, h⟩ := hL
    rw [hB]; exact (Array.getElem?_eq_some_iff.1 h).1
  rw [← hB]
  have hB0 : B ≤ w.heap.size := by omega
  have hlen : l.length = n := by have := hr.len; simpa using this
  have HLEN := Lib.hid hlen
  have HR := Lib.hid hr
  have HL := Lib.hid hL
  have hcap := hr.cap
  have hnc := hr.le
  have HA := Lib.hid (awake_any w hL (by omega))
  clear hB hlen hr hL
  go_enter Tryd.func5, Tryd.ntmps5
  go_wp2_with fail
  refine HA.out.mono ?_
  rintro e w1 ⟨rfl, hb1⟩
  clear HA
  have hb1 : Below B w w1 := hb1.mono hB0
  have hs1 : B ≤ w1.heap.size := Nat.le_trans hB0 hb1.size
  go_wp2_with fail
  have H := encode_any A n c l w1 ((HR.out.below hb1).more hs1) hn
  unfold EncodePost at H
  have H := Lib.hid H
  refine H.out.mono ?_
  rintro e w2 ⟨v, ke, rfl, hcase, hb2⟩
  clear H
  have hb2 : Below B w w2 := hb1.trans (hb2.mono hs1)
  have hs2 : B ≤ w2.heap.size := Nat.le_trans hB0 hb2.size
  have HC := Lib.hid hcase
  clear hcase hb1 hs1
  go_wp2_with fail
  go_loopw [6, 7] (fun q i wr => ∃ k : Nat, k ≤ n ∧ i = .int .i64 k ∧ (∃ b, q = .bool b ∧ b = (l.take k).all dom) ∧ wr = w2) (fun _ i _ => n - (intOf i).toNat)
  case atStart => exact ⟨0, Nat.zero_le _, rfl, ⟨_, rfl, by simp; omega⟩, rfl⟩
  case round =>
    obtain ⟨k, hk, rfl, ⟨q, rfl, hq⟩, rfl⟩ := hrel
    have HQ := Lib.hid hq
    clear hq
    by_cases hlt : k < n
    · obtain ⟨x, hxk⟩ : ∃ x, l[k]? = some x := ⟨_, List.getElem?_eq_getElem (by have := HLEN.out; omega)⟩
      obtain ⟨b, off, rfl, hb, hcx⟩ := HR.out.at_ (by omega)
      have cx : wr.cell? ⟨b, off + k, none⟩ = some (.int .i64 x) := (hb2.cell hb).trans (hcx k _ (by simp [hxk]))
      have HX := Lib.hid (show (l.take (k + 1)).all dom = ((l.take k).all dom && dom x) from by rw [List.take_add_one, hxk, List.all_append]; simp)
      clear hxk hcx
      cases q <;> cases hd : dom x
      all_goals go_wp2_with (go_at_call 20; refine (lawDomain_any _ _).mono ?_; rintro e w' ⟨rfl, rfl⟩; rw [hd])
      all_goals exact ⟨⟨k + 1, by omega, by go_num, ⟨_, rfl, by rw [HX.out, ← HQ.out, hd]; rfl⟩, trivial⟩, by simp [intOf]; omega⟩
    · obtain rfl : k = n := by omega
      have e : l.take k = l := List.take_of_length_le (by have := HLEN.out; omega)
      rw [e] at HQ
      clear e
      rcases HC.out with ⟨hall, rfl, hou⟩ | ⟨hall, rfl, rfl⟩
      · obtain rfl : q = true := HQ.out.trans hall
        have HD := Lib.hid (List.all_eq_true.1 hall)
        clear hall HC HQ
        obtain ⟨Ab, cb, rfl⟩ := own_shape hou
        have hel := encL_len l
        rw [HLEN.out] at hel
        have hrb := Reads.of_own hou
        have HRB := Lib.hid hrb
        obtain ⟨NB, hNB⟩ : ∃ NB, NB = (encL l).length := ⟨_, rfl⟩
        rw [← hNB] at hou hel HRB hrb ⊢
        have HNB := Lib.hid hNB
        have hbc := hrb.le
        have hbm := hrb.cap
        clear hNB hrb hou
        go_wp2_with fail
        have H := Lib.hid (cut_any Ab NB cb (encL l) wr HRB.out (encL_bd HD.out) (HL.out.below hb2 hg0) (by omega) (by omega))
        refine H.out.mono ?_
        rintro e w3 ⟨u, pv, rfl, hu, hp, hap, hb3⟩
        clear H hap
        have hcu := cut_enc HD.out
        rw [hcu.1, HLEN.out] at hu
        rw [places_len HD.out, HLEN.out] at hp
        clear hcu
        obtain ⟨Am, cm, rfl⟩ := own_shape hu
        obtain ⟨Ap, cp, rfl⟩ := own_shape hp
        obtain ⟨gp, rfl, _, _, _⟩ := own_form hp (by omega)
        have hrm := Reads.of_own hu
        have hrp := Reads.of_own hp
        clear hu hp
        have hs3 : wr.heap.size ≤ w3.heap.size := hb3.size
        have hb03 : Below B w w3 := hb2.trans (hb3.mono hs2)
        have hrl3 : Reads w3 w3.heap.size 1 A k c (l.map (Value.int .i64)) := (HR.out.below hb03).more (Nat.le_trans hs2 hs3)
        have hrb3 : Reads w3 w3.heap.size 1 Ab NB cb ((encL l).map (Value.int .u8)) := (HRB.out.below hb3).more hs3
        have HSM := Lib.hid (sameInts_any _ _ _ _ _ _ _ l l w3 hrm hrl3)
        clear hrm hb3 HRB
        have HRP := Lib.hid hrp
        have HRL := Lib.hid hrl3
        have HRB := Lib.hid hrb3
        have cp0 : w3.cell? ⟨gp, 0, none⟩ = some (.int .i64 0) := by
          have := HRP.out.cellAt (j := 0) (u := .int .i64 0) (by rw [List.getElem?_map, places_at HD.out (Nat.zero_le _)]; simp [plc, encL])
          simpa using this
        have cpn : w3.cell? ⟨gp, k, none⟩ = some (.int .i64 NB) := by
          have := HRP.out.cellAt (j := k) (u := .int .i64 NB) (by rw [List.getElem?_map, places_at HD.out (by have := HLEN.out; omega)]; rw [← HLEN.out, plc_all, ← HNB.out]; rfl)
          simpa using this
        have hpc := hrp.le
        have hpm := hrp.cap
        clear hrp hrl3 hrb3
        go_wp2_with fail
        refine HSM.out.mono ?_
        rintro e w4 ⟨rfl, m4, rfl⟩
        rw [show (l == l) = true from beq_self_eq_true l]
        go_wp2_with fail
        have hbW : Below B w (w3.drewN m4) := bdrewN hb03 m4
        have hsW : B ≤ (w3.drewN m4).heap.size := Nat.le_trans hs2 hs3
        have HRL := Lib.hid (show Reads (w3.drewN m4) (w3.drewN m4).heap.size 1 A k c (l.map (Value.int .i64)) from HRL.out.drewN m4)
        have HRB := Lib.hid (show Reads (w3.drewN m4) (w3.drewN m4).heap.size 1 Ab NB cb ((encL l).map (Value.int .u8)) from HRB.out.drewN m4)
        have HRP := Lib.hid (show Reads (w3.drewN m4) (w3.drewN m4).heap.size 1 (some ⟨gp, 0, none⟩) (k + 1) cp ((cutPlaces (encL l)).map (Value.int .i64)) from HRP.out.drewN m4)
        clear cp0 cpn HSM hb03 hs3
        generalize w3.drewN m4 = W at *
        go_loopw [12] (fun i wr => ∃ j : Nat, j ≤ k ∧ i = .int .i64 j ∧ Below W.heap.size W wr) (fun i _ => k - (intOf i).toNat)
        case atStart => exact ⟨0, Nat.zero_le _, rfl, Below.refl _ _⟩
        case round =>
          obtain ⟨j, hj, rfl, hbj⟩ := hrel
          have hbwj : Below B w wr := hbW.trans (hbj.mono hsW)
          have hsj := hbj.size
          by_cases hlt2 : j < k
          · obtain ⟨x, hxk⟩ : ∃ x, l[j]? = some x := ⟨_, List.getElem?_eq_getElem (by have := HLEN.out; omega)⟩
            have HXK := Lib.hid hxk
            have hdx := HD.out x (List.mem_of_getElem? hxk)
            have HDX := Lib.hid hdx
            clear hxk hdx
            have hcut := ((HRL.out.below hbj).more hsj).cut (k := j) (l := j + 1) (by omega) (by omega)
            rw [if_neg (by omega), Nat.mul_one, Nat.add_sub_cancel_left, Nat.one_mul, ← List.map_drop, ← List.map_take, drop_take_one HXK.out] at hcut
            have H1 := encode_any _ _ _ [x] wr hcut (by omega)
            unfold EncodePost at H1
            rw [encL_one, show [x].all dom = true from by simp [HDX.out]] at H1
            have H1 := Lib.hid H1
            clear hcut
            have hcj : ¬ c = j := by omega
            go_wp2_with fail
            refine H1.out.mono ?_
            rintro e w5 ⟨v1, k1, rfl, hcase, hb5⟩
            clear H1
            rcases hcase with ⟨_, rfl, ho1⟩ | ⟨hf, _⟩
            case inr => cases hf
            have hb5W : Below W.heap.size W w5 := hbj.trans (hb5.mono hsj)
            have hs5 := hb5W.size
            have hb5w : Below B w w5 := hbW.trans (hb5W.mono hsW)
            clear hb5 hbj hsj hbwj
            obtain ⟨A1, c1, rfl⟩ := own_shape ho1
            have hr1 := Reads.of_own ho1
            clear ho1
            have hcj1 := HRP.out.cellAt (j := j) (u := .int .i64 (plc l j)) (by rw [List.getElem?_map, places_at HD.out (by have := HLEN.out; omega)]; rfl)
            have hcj2 := HRP.out.cellAt (j := j + 1) (u := .int .i64 (plc l j + (encB x).length)) (by rw [List.getElem?_map, places_at HD.out (by have := HLEN.out; omega), plc_succ HXK.out]; simp)
            have hgp := HRP.out.lt (by omega)
            rw [Nat.zero_add] at hcj1 hcj2
            have hp1 := plc_lt HXK.out
            have hp2 : plc l (j + 1) ≤ (encL l).length := plc_le
            rw [plc_succ HXK.out] at hp2
            rw [← HNB.out] at hp1 hp2
            have hdr := encL_drop HXK.out
            have hmid := encL_mid HXK.out
            rw [plc_succ HXK.out] at hmid
            obtain ⟨m1, hm1⟩ : ∃ m, m = (encB x).length := ⟨_, rfl⟩
            obtain ⟨p, hp⟩ : ∃ p, p = plc l j := ⟨_, rfl⟩
            rw [← hm1] at hr1 hcj2 hp2 hmid ⊢
            rw [← hp] at hcj1 hcj2 hp1 hp2 hdr hmid
            have hdec : dec ((encL l).drop p) = (x, (m1 : Int)) := by rw [hdr, hm1]; exact dec_enc HDX.out _
            have HDEC := Lib.hid hdec
            have HM1 := Lib.hid hm1
            have HMID := Lib.hid hmid
            have HR1 := Lib.hid hr1
            clear hdr hdec hm1 hp hmid hr1
            obtain ⟨b0, o0, rfl, hb0, hcx⟩ := HRL.out.at_ (by omega)
            have hcx1 := hcx j (.int .i64 x) (by rw [List.getElem?_map, HXK.out]; rfl)
            clear hcx
            obtain ⟨bb, ob, rfl, hbb, _⟩ := HRB.out.at_ (by omega)
            have cj1 : w5.cell? ⟨gp, j, none⟩ = some (.int .i64 p) := (hb5W.cell hgp).trans hcj1
            have hdrp : Reads w5 w5.heap.size 1 ((some (⟨bb, ob, none⟩ : Addr)).map (·.add p)) (NB - p) (cb - p) (((encL l).drop p).map (Value.int .u8)) := by
              have := ((HRB.out.below hb5W).drop (k := p) (by omega)).more hs5
              rw [if_neg (by omega), Nat.mul_one, ← List.map_drop] at this
              exact this
            simp only [Option.map_some, add_lit] at hdrp
            have H2 := decode_any _ _ _ _ w5 hdrp (fun b hb => encL_bd HD.out b (List.mem_of_mem_drop hb)) (HL.out.below hb5w hg0)
            unfold DecodePost at H2
            rw [HDEC.out] at H2
            have H2 := Lib.hid H2
            clear hdrp
            have hcbp : ¬ cb = p := by omega
            go_wp2_with fail
            refine H2.out.mono ?_
            rintro e w6 ⟨rfl, hb6⟩
            clear H2 cj1
            have hb6W : Below W.heap.size W w6 := hb5W.trans (hb6.mono hs5)
            have hs6 := hb6W.size
            have cj1 : w6.cell? ⟨gp, j, none⟩ = some (.int .i64 p) := (hb6W.cell hgp).trans hcj1
            have cj2 : w6.cell? ⟨gp, j + 1, none⟩ = some (.int .i64 (p + m1)) := (hb6W.cell hgp).trans hcj2
            have cl1 : w6.cell? ⟨b0, o0 + j, none⟩ = some (.int .i64 x) := (hb6W.cell hb0).trans hcx1
            have HR1 := Lib.hid (HR1.out.below hb6)
            have HRB6 := Lib.hid (HRB.out.below hb6W)
            clear hcj1 hcj2 hcx1 hb5W hb6 hs5 hb5w
            go_wp2_with fail
            have hbd : ∀ b ∈ encB x, 0 ≤ b ∧ b ≤ 255 := by
              have := HDX.out
              simp only [dom, decide_eq_true_eq] at this
              exact encB_bd this.1 this.2.1
            clear hbd
            obtain ⟨s1, hs1⟩ : ∃ s, s = strOfNums (encB x) := ⟨_, rfl⟩
            have v1 : ∀ q, (convert 25 9 (.slice A1 m1 c1)).run Tryd.prog (w6.drewN q) = .ok (.string s1) (w6.drewN q) := by
              intro q; rw [hs1]; exact (HR1.out.drewN q).str (P := Tryd.prog) Tryd.underlying25 Tryd.underlying5 Tryd.underlying9
            have v2 : ∀ q, (convert 25 9 (.slice (some ⟨bb, ob + p, none⟩) m1 (cb - p))).run Tryd.prog (w6.drewN q) = .ok (.string s1) (w6.drewN q) := by
              intro q
              have hm := HRB6.out.cut (k := p) (l := p + m1) (by omega) (by omega)
              rw [if_neg hcbp, Nat.mul_one, ← List.map_drop, ← List.map_take, Nat.mul_one, HMID.out, Nat.add_sub_cancel_left] at hm
              simp only [Option.map_some, add_lit] at hm
              rw [hs1]; exact (hm.drewN q).str (P := Tryd.prog) Tryd.underlying25 Tryd.underlying5 Tryd.underlying9
            clear hs1
            have hss : (s1.toList != s1.toList) = false := by simp
            have hxx : (x != x) = false := by simp
            have hj3 : ((j : Int) + 1).toNat = j + 1 := by omega
            have hj4 : (j : Int) + 1 < (k : Int) + 1 := by omega
            have hj5 : ¬ ((j : Int) + 1 < 0) := by omega
            have hj6 : 0 ≤ (j : Int) + 1 := by omega
            have hmm : ((m1 : Int) != (p : Int) + m1 - p) = false := by simp; omega
            have hm2 : ((m1 : Int) != (m1 : Int)) = false := by simp
            go_quiet (fail)
            go_wp2_with fail
            refine ⟨⟨j + 1, by omega, by go_num, bdrewN hb6W nq⟩, by simp [intOf]; omega⟩
          · go_wp2_with fail
            go_ret
            exact ⟨rfl, hbwj⟩
      · obtain rfl : q = false := HQ.out.trans hall
        go_wp2_with fail
        go_ret
        exact ⟨rfl, hb2⟩
end Go.Proofs.YtgljhhlnnedmaaaDoor
