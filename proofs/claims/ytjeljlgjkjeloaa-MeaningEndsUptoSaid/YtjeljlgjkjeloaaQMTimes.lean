/- heronlaw06.times: so many of a tree's tables. -/
import Derived.Test.YtjeljlgjkjeloaaQTab
import Derived.Test.YtjeljlgjkjeloaaQLook
import Derived.Test.YtjeljlgjkjeloaaQRefRightR
import Derived.Deep.RegionHeldLaw
namespace Go.Proofs.Ytjeljlgjkjeloaa
open Go.RowKit Go.Proofs.Ytjeljlgjkjeloaa.Tr

set_option maxRecDepth 100000 in
set_option maxHeartbeats 4000000 in
theorem times6_any (k : Int) (r : List (Int × Int)) (ra : Option Addr) (rc : Nat) (ast : Int) (l : List Ta) (sa : Option Addr) (sc : Nat) (m0 : Nat) (mx : Int) (z : Bool) (ix : Int) (nm : ByteArray) {n ba oa ca Ba : Nat} {ga : List Nat} {fa : Fn2} (w : World) (h1 : 1 ≤ n) (hn : n ≤ 1048576) (ha : Tab w Ba ba oa n ga fa) (hm0 : m0 ≤ 1000) (hmx : mx = -1 ∨ ((m0 : Int) ≤ mx ∧ mx ≤ 1000)) :
    Calls Try.prog 38 #[.agg #[.int .i64 k, .slice ra r.length rc, .int .i64 ast, .slice sa l.length sc, .int .i64 (m0 : Int), .int .i64 mx, .bool z, .int .i64 ix, .string nm], .slice (some ⟨ba, oa, none⟩) n ca] w (TabRet n (timesN n fa m0 mx) w) := by
  have hb0 : Below w.heap.size w (w.alloc (.cells #[.int .i64 k, .slice ra r.length rc, .int .i64 ast, .slice sa l.length sc, .int .i64 (m0 : Int), .int .i64 mx, .bool z, .int .i64 ix, .string nm] 28)) := (Below.refl _ _).alloc (Nat.le_refl _) _
  have HBL := Lib.hid (Blk.new w 28 [.int .i64 k, .slice ra r.length rc, .int .i64 ast, .slice sa l.length sc, .int .i64 (m0 : Int), .int .i64 mx, .bool z, .int .i64 ix, .string nm])
  have r4 : (w.alloc (.cells #[.int .i64 k, .slice ra r.length rc, .int .i64 ast, .slice sa l.length sc, .int .i64 (m0 : Int), .int .i64 mx, .bool z, .int .i64 ix, .string nm] 28)).cell? ⟨w.heap.size, 4, none⟩ = some (.int .i64 (m0 : Int)) := HBL.out.cell 4
  have HB0 := Lib.hid hb0
  have HA0 := Lib.hid (ha.below hb0)
  have HMX := Lib.hid hmx
  clear ha hb0 hmx
  go_enter Try.func38, Try.ntmps38
  go_wp2_with fail
  generalize (w.alloc (.cells #[.int .i64 k, .slice ra r.length rc, .int .i64 ast, .slice sa l.length sc, .int .i64 (m0 : Int), .int .i64 mx, .bool z, .int .i64 ix, .string nm] 28)) = w0 at *
  refine (stays_any n w0 h1 hn).mono ?_
  rintro e w1 ⟨b, o, c, gs, rfl, hb1, ht1⟩
  have HB1 := Lib.hid (HB0.out.trans (hb1.mono HB0.out.size))
  have HT1 := Lib.hid (ht1.low HB0.out.size)
  have HB01 := Lib.hid hb1
  clear hb1 ht1 r4
  simp only []
  go_wp2_with fail
  go_loopw [5, 6] (fun ov iv wr => ∃ (i : Nat) (b o c : Nat) (gs : List Nat), i ≤ m0 ∧ iv = .int .i64 (i : Int) ∧ ov = .slice (some ⟨b, o, none⟩) n c ∧ Below w0.heap.size w0 wr ∧ Tab wr w.heap.size b o n gs (powN n fa i)) (fun _ iv _ => m0 - (intOf iv).toNat)
  case atStart => exact ⟨0, b, o, c, gs, Nat.zero_le _, rfl, rfl, HB01.out, HT1.out⟩
  case round =>
    obtain ⟨i, b, o, c, gs, hi, rfl, rfl, hb, ht⟩ := hrel
    have HBI := Lib.hid hb
    have HTI := Lib.hid ht
    have HBLW := Lib.hid (HBL.out.below hb HBL.out.lt)
    have r4 : wr.cell? ⟨w.heap.size, 4, none⟩ = some (.int .i64 (m0 : Int)) := HBLW.out.cell 4
    clear hb ht
    by_cases hlt : i < m0
    · have hlt2 : (i : Int) < (m0 : Int) := by omega
      have HTH := Lib.hid (through_any (ca := c) (cb := ca) wr h1 hn HTI.out (HA0.out.below HBI.out))
      go_wp2_with fail
      refine HTH.out.mono ?_
      rintro e w2 ⟨b', o', c', gs', rfl, hb2, ht2⟩
      have hsz := Nat.le_trans HB0.out.size HBI.out.size
      have HB2 := Lib.hid (HBI.out.trans (hb2.mono HBI.out.size))
      have HT2 := Lib.hid (show Tab w2 w.heap.size b' o' n gs' (powN n fa (i + 1)) from ht2.low hsz)
      clear hb2 ht2
      simp only []
      go_wp2_with fail
      go_roundw
      case rel => exact ⟨i + 1, b', o', c', gs', by omega, by go_num, rfl, HB2.out, HT2.out⟩
      case measure => simp [intOf]; omega
    · obtain rfl : i = m0 := by omega
      have hlt2 : ¬ ((i : Int) < (i : Int)) := by omega
      have r5 : wr.cell? ⟨w.heap.size, 5, none⟩ = some (.int .i64 mx) := HBLW.out.cell 5
      have hszw := Nat.le_trans HB0.out.size HBI.out.size
      have HSZ := Lib.hid hszw
      by_cases hneg : mx < 0
      · have HOF := Lib.hid (often_any (ca := ca) wr h1 hn (HA0.out.below HBI.out))
        go_wp2_with fail
        refine HOF.out.mono ?_
        rintro e w2 ⟨b2, o2, c2, g2, rfl, hb2, ht2⟩
        have HTH := Lib.hid (through_any (ca := c) (cb := c2) w2 h1 hn (HTI.out.below hb2) ht2)
        have HB2 := Lib.hid ((HB0.out.trans (HBI.out.mono HB0.out.size)).trans (hb2.mono HSZ.out))
        have HS2 := Lib.hid (Nat.le_trans HSZ.out hb2.size)
        clear hb2 ht2
        simp only []
        go_wp2_with fail
        refine HTH.out.mono ?_
        rintro e w3 ⟨b3, o3, c3, g3, rfl, hb3, ht3⟩
        have HB3 := Lib.hid (HB2.out.trans (hb3.mono HS2.out))
        have HT3 := Lib.hid (show Tab w3 w.heap.size b3 o3 n g3 (timesN n fa i mx) from by
          unfold timesN
          rw [if_pos hneg]
          exact ht3.low HS2.out)
        clear hb3 ht3
        simp only []
        go_wp2_with fail
        go_ret
        exact ⟨b3, o3, c3, g3, rfl, HB3.out, HT3.out⟩
      · obtain ⟨d, hd⟩ : ∃ d : Nat, mx = (i : Int) + (d : Int) := ⟨(mx - i).toNat, by have := HMX.out; omega⟩
        subst hd
        have hd1 : d ≤ 1000 := by have := HMX.out; omega
        have r4' : wr.cell? ⟨w.heap.size, 4, none⟩ = some (.int .i64 (i : Int)) := r4
        go_wp2_with fail
        obtain ⟨wo, rfl⟩ : ∃ wo, wo = wr := ⟨_, rfl⟩
        go_loopw [5, 7, 8] (fun ov av iv wr => ∃ (q b o c b' o' c' : Nat) (gs gs' : List Nat), q ≤ d ∧ iv = .int .i64 ((i : Int) + (q : Int)) ∧ ov = .slice (some ⟨b, o, none⟩) n c ∧ av = .slice (some ⟨b', o', none⟩) n c' ∧ Below wo.heap.size wo wr ∧ Tab wr w.heap.size b o n gs (powN n fa (i + q)) ∧ Tab wr w.heap.size b' o' n gs' (allN n fa i q)) (fun _ _ iv _ => i + d - (intOf iv).toNat)
        case atStart => exact ⟨0, b, o, c, b, o, c, gs, gs, Nat.zero_le _, by simp, rfl, rfl, Below.refl _ _, HTI.out, HTI.out⟩
        case round =>
          obtain ⟨q, b, o, c, b', o', c', gs, gs', hq, rfl, rfl, rfl, hb, ht, ht'⟩ := hrel
          have HBQ := Lib.hid hb
          have HTQ := Lib.hid ht
          have HTQ' := Lib.hid ht'
          have r5 : wr.cell? ⟨w.heap.size, 5, none⟩ = some (.int .i64 ((i : Int) + (d : Int))) := (HBLW.out.below hb HBLW.out.lt).cell 5
          clear hb ht ht'
          by_cases hqd : q < d
          · have hqd2 : (i : Int) + (q : Int) < (i : Int) + (d : Int) := by omega
            have HBW := Lib.hid (HBI.out.trans (HBQ.out.mono HBI.out.size))
            have HTH := Lib.hid (through_any (ca := c) (cb := ca) wr h1 hn HTQ.out (HA0.out.below HBW.out))
            have hwq : IntKind.i64.wrap ((i : Int) + (q : Int) + 1) = (i : Int) + ((q + 1 : Nat) : Int) := by rw [IntKind.wrap_i64]; omega
            have HWQ := Lib.hid hwq
            clear hwq
            go_wp2_with fail
            refine HTH.out.mono ?_
            rintro e w2 ⟨b2, o2, c2, g2, rfl, hb2, ht2⟩
            have HT2 := Lib.hid (show Tab w2 w.heap.size b2 o2 n g2 (powN n fa (i + q + 1)) from ht2.low (Nat.le_trans HSZ.out HBQ.out.size))
            have HB2 := Lib.hid (HBQ.out.trans (hb2.mono HBQ.out.size))
            have HOR := Lib.hid (or_any (ca := c') (cb := c2) w2 h1 hn (HTQ'.out.below hb2) HT2.out)
            clear hb2 ht2
            simp only []
            go_wp2_with fail
            refine HOR.out.mono ?_
            rintro e w3 ⟨b3, o3, c3, g3, rfl, hb3, ht3⟩
            have HT3 := Lib.hid (show Tab w3 w.heap.size b3 o3 n g3 (allN n fa i (q + 1)) from ht3.low (Nat.le_trans HSZ.out HB2.out.size))
            have HT2' := Lib.hid (HT2.out.below hb3)
            have HB3 := Lib.hid (HB2.out.trans (hb3.mono HB2.out.size))
            clear hb3 ht3
            simp only []
            go_wp2_with fail
            go_roundw
            case rel => exact ⟨q + 1, b2, o2, c2, b3, o3, c3, g2, g3, by omega, congrArg (Value.int .i64) (by first | exact HWQ.out | (go_num; done) | (have := HWQ.out; simp; omega)), rfl, rfl, HB3.out, HT2'.out, HT3.out⟩
            case measure => have := HWQ.out; simp [intOf]; omega
          · obtain rfl : q = d := by omega
            have hqd2 : ¬ ((i : Int) + (q : Int) < (i : Int) + (q : Int)) := by omega
            have HT3 := Lib.hid (show Tab wr w.heap.size b' o' n gs' (timesN n fa i ((i : Int) + (q : Int))) from by
              unfold timesN
              rw [if_neg (by omega), show ((i : Int) + (q : Int) - i).toNat = q from by omega]
              exact HTQ'.out)
            have HB3 := Lib.hid ((HB0.out.trans (HBI.out.mono HB0.out.size)).trans (HBQ.out.mono HSZ.out))
            go_wp2_with fail
            go_ret
            exact ⟨b', o', c', gs', rfl, HB3.out, HT3.out⟩
end Go.Proofs.Ytjeljlgjkjeloaa
/- heronlaw06.table: from which place to which a tree leads. -/
namespace Go.Proofs.Ytjeljlgjkjeloaa
open Go.RowKit Go.Proofs.Ytjeljlgjkjeloaa.Tr Go.Proofs.Ytjeljlgjkjeloaa.Mach

def TblRet (n : Nat) (t : List Int) (s : Tr.Tr) (w : World) (e : Ending) (w' : World) : Prop := ∃ f, TabRet (n + 1) f w e w' ∧ Rep (n + 1) f (LT t s)
def TableOk (u : Ta) : Prop := ∀ (S : Nat → Prop) (w : World) (At : Option Addr) (n c : Nat) (t : List Int), RT w S u → allB u.tr = true → (∀ b, S b → b < w.heap.size) → RdA w S 1 At n c (t.map (Value.int .i64)) → n ≤ 64 →
    Calls Try.prog 12 #[u.val, .slice At n c] w (TblRet n t u.tr w)
set_option maxRecDepth 100000 in
set_option maxHeartbeats 8000000 in
theorem tbl_empty (r : List (Int × Int)) (ra : Option Addr) (rc : Nat) (ast : Int) (l : List Ta) (sa : Option Addr) (sc : Nat) (mn mx : Int) (z : Bool) (ix : Int) (nm : ByteArray) (S : Nat → Prop) (w : World) (At : Option Addr) (n c : Nat) (t : List Int) (h : RT w S (Ta.mk 1 r ra rc ast l sa sc mn mx z ix nm)) (hall : allB (Ta.mk 1 r ra rc ast l sa sc mn mx z ix nm).tr = true) (hS : ∀ b, S b → b < w.heap.size) (htx : RdA w S 1 At n c (t.map (Value.int .i64))) (hn : n ≤ 64) :
    Calls Try.prog 12 #[(Ta.mk 1 r ra rc ast l sa sc mn mx z ix nm).val, .slice At n c] w (TblRet n t (Ta.mk 1 r ra rc ast l sa sc mn mx z ix nm).tr w) := by
  have hb0 : Below w.heap.size w (w.alloc (.cells #[.int .i64 1, .slice ra r.length rc, .int .i64 ast, .slice sa l.length sc, .int .i64 mn, .int .i64 mx, .bool z, .int .i64 ix, .string nm] 28)) := (Below.refl _ _).alloc (Nat.le_refl _) _
  have HBL0 := Lib.hid (Blk.new w 28 [.int .i64 1, .slice ra r.length rc, .int .i64 ast, .slice sa l.length sc, .int .i64 mn, .int .i64 mx, .bool z, .int .i64 ix, .string nm])
  obtain ⟨⟨hR, hrl, hll, -⟩, hN, hL⟩ := h.parts
  have HB0 := Lib.hid hb0
  have HR := Lib.hid hR
  have HN := Lib.hid hN
  have HL := Lib.hid hL
  have HS := Lib.hid hS
  have HTX := Lib.hid htx
  have HALL := Lib.hid hall
  have htl : t.length = n := by have := htx.2.2.1; rw [List.length_map] at this; omega
  have HTL := Lib.hid htl
  have hnc := htx.1
  have hnc2 := htx.2.1
  have hwn : IntKind.i64.wrap ((n : Int) + 1) = (n : Int) + 1 := by rw [IntKind.wrap_i64]; omega
  have hec : ((n + 1 : Nat) : Int) = (n : Int) + 1 := by omega
  have hli := lines_any (n + 1) (w.alloc (.cells #[.int .i64 1, .slice ra r.length rc, .int .i64 ast, .slice sa l.length sc, .int .i64 mn, .int .i64 mx, .bool z, .int .i64 ix, .string nm] 28)) (by omega) (by omega)
  rw [hec] at hli
  have HLI := Lib.hid hli
  have HEC := Lib.hid hec
  clear h hall hS htx hb0 hli hec htl hR hN hL
  simp only [Ta.val, Ta.vals]
  go_enter Try.func12, Try.ntmps12
  go_wp2_with fail
  refine HLI.out.mono ?_
  rintro e w1 ⟨b, o, c1, gs, rfl, hb1, ht1⟩
  have hbs0 : (w.alloc (.cells #[.int .i64 1, .slice ra r.length rc, .int .i64 ast, .slice sa l.length sc, .int .i64 mn, .int .i64 mx, .bool z, .int .i64 ix, .string nm] 28)).heap.size = w.heap.size + 1 := by simp
  have HT1 := Lib.hid (show Tab w1 (w.heap.size + 1) b o (n + 1) gs _ from hbs0 ▸ ht1)
  have HB1 := Lib.hid (HB0.out.trans (hb1.mono HB0.out.size))
  have HBL1 := Lib.hid (HBL0.out.below hb1 HBL0.out.lt)
  have k0 : w1.cell? ⟨w.heap.size, 0, none⟩ = some (.int .i64 1) := HBL1.out.cell 0
  clear hb1 ht1 HLI
  simp only []
  have hst := stays_any (n + 1) w1 (by omega) (by omega)
  rw [HEC.out] at hst
  have HST := Lib.hid hst
  clear hst
  go_wp2_with fail
  refine HST.out.mono ?_
  rintro e w2 ⟨b, o, c2, gs, rfl, hb2, ht2⟩
  have HB2 := Lib.hid (HB1.out.trans (hb2.mono HB1.out.size))
  have HT2 := Lib.hid (show Tab w2 (w.heap.size + 1) b o (n + 1) gs _ from ht2.low HBL1.out.lt)
  have HBL2 := Lib.hid (HBL1.out.below hb2 HBL1.out.lt)
  clear hb2 ht2 HST k0
  simp only []
  go_wp2_with fail
  go_ret
  have HLT := show ∀ i j, LT t (Ta.mk 1 r ra rc ast l sa sc mn mx z ix nm).tr i j ↔ i = j from fun i j => by rw [Ta.tr, LT]; simp
  exact ⟨_, ⟨b, o, c2, gs, rfl, HB2.out, HT2.out.low (Nat.le_succ _)⟩, rep_id.iff fun i j => (HLT i j).symm⟩
set_option maxRecDepth 100000 in
set_option maxHeartbeats 8000000 in
theorem tbl_ass (r : List (Int × Int)) (ra : Option Addr) (rc : Nat) (ast : Int) (l : List Ta) (sa : Option Addr) (sc : Nat) (mn mx : Int) (z : Bool) (ix : Int) (nm : ByteArray) (S : Nat → Prop) (w : World) (At : Option Addr) (n c : Nat) (t : List Int) (h : RT w S (Ta.mk 3 r ra rc ast l sa sc mn mx z ix nm)) (hall : allB (Ta.mk 3 r ra rc ast l sa sc mn mx z ix nm).tr = true) (hS : ∀ b, S b → b < w.heap.size) (htx : RdA w S 1 At n c (t.map (Value.int .i64))) (hn : n ≤ 64) :
    Calls Try.prog 12 #[(Ta.mk 3 r ra rc ast l sa sc mn mx z ix nm).val, .slice At n c] w (TblRet n t (Ta.mk 3 r ra rc ast l sa sc mn mx z ix nm).tr w) := by
  have hb0 : Below w.heap.size w (w.alloc (.cells #[.int .i64 3, .slice ra r.length rc, .int .i64 ast, .slice sa l.length sc, .int .i64 mn, .int .i64 mx, .bool z, .int .i64 ix, .string nm] 28)) := (Below.refl _ _).alloc (Nat.le_refl _) _
  have HBL0 := Lib.hid (Blk.new w 28 [.int .i64 3, .slice ra r.length rc, .int .i64 ast, .slice sa l.length sc, .int .i64 mn, .int .i64 mx, .bool z, .int .i64 ix, .string nm])
  obtain ⟨⟨hR, hrl, hll, -⟩, hN, hL⟩ := h.parts
  have HB0 := Lib.hid hb0
  have HR := Lib.hid hR
  have HN := Lib.hid hN
  have HL := Lib.hid hL
  have HS := Lib.hid hS
  have HTX := Lib.hid htx
  have HALL := Lib.hid hall
  have htl : t.length = n := by have := htx.2.2.1; rw [List.length_map] at this; omega
  have HTL := Lib.hid htl
  have hnc := htx.1
  have hnc2 := htx.2.1
  have hwn : IntKind.i64.wrap ((n : Int) + 1) = (n : Int) + 1 := by rw [IntKind.wrap_i64]; omega
  have hec : ((n + 1 : Nat) : Int) = (n : Int) + 1 := by omega
  have hli := lines_any (n + 1) (w.alloc (.cells #[.int .i64 3, .slice ra r.length rc, .int .i64 ast, .slice sa l.length sc, .int .i64 mn, .int .i64 mx, .bool z, .int .i64 ix, .string nm] 28)) (by omega) (by omega)
  rw [hec] at hli
  have HLI := Lib.hid hli
  have HEC := Lib.hid hec
  clear h hall hS htx hb0 hli hec htl hR hN hL
  simp only [Ta.val, Ta.vals]
  go_enter Try.func12, Try.ntmps12
  go_wp2_with fail
  refine HLI.out.mono ?_
  rintro e w1 ⟨b, o, c1, gs, rfl, hb1, ht1⟩
  have hbs0 : (w.alloc (.cells #[.int .i64 3, .slice ra r.length rc, .int .i64 ast, .slice sa l.length sc, .int .i64 mn, .int .i64 mx, .bool z, .int .i64 ix, .string nm] 28)).heap.size = w.heap.size + 1 := by simp
  have HT1 := Lib.hid (show Tab w1 (w.heap.size + 1) b o (n + 1) gs _ from hbs0 ▸ ht1)
  have HB1 := Lib.hid (HB0.out.trans (hb1.mono HB0.out.size))
  have HBL1 := Lib.hid (HBL0.out.below hb1 HBL0.out.lt)
  have k0 : w1.cell? ⟨w.heap.size, 0, none⟩ = some (.int .i64 3) := HBL1.out.cell 0
  clear hb1 ht1 HLI
  simp only []
  obtain ⟨j, hj, haj⟩ := assert_pow (show assertB ast = true from by
    have := ((allB_iff _).1 HALL.out).1
    unfold Ta.tr nodeB at this
    dsimp only at this
    unfold nodeF at this
    simp only [reduceIte, Int.reduceEq, Bool.and_eq_true] at this
    exact this.2.2)
  have HAV := Lib.hid haj
  have HJ := Lib.hid hj
  clear haj hj
  go_wp2_with fail
  go_loopw [9] (fun iv wr => ∃ i : Nat, i ≤ n + 1 ∧ iv = .int .i64 (i : Int) ∧ Below w.heap.size w wr ∧ Blk wr w.heap.size 28 [.int .i64 3, .slice ra r.length rc, .int .i64 ast, .slice sa l.length sc, .int .i64 mn, .int .i64 mx, .bool z, .int .i64 ix, .string nm] ∧ Tab wr (w.heap.size + 1) b o (n + 1) gs (fun a x => decide (a = x ∧ a < i) && asB t a ast)) (fun iv _ => n + 1 - (intOf iv).toNat)
  case atStart => exact ⟨0, Nat.zero_le _, rfl, HB1.out, HBL1.out, HT1.out.congr fun i k _ _ => by simp⟩
  case round =>
    obtain ⟨i, hi, rfl, hb, hbl, ht⟩ := hrel
    have HB := Lib.hid hb
    have HT := Lib.hid ht
    have HBLW := Lib.hid hbl
    clear hb hbl ht
    by_cases hlt : i < n + 1
    · have hlt2 : (i : Int) < (n : Int) + 1 := by omega
      obtain ⟨g, hg, hc, hg1, hg2, hck, hfz⟩ := HT.out.at_ hlt
      have hck1 := hck i hlt
      have hfz1 := hfz i
      have HG := Lib.hid hg
      have r2 : wr.cell? ⟨w.heap.size, 2, none⟩ = some (.int .i64 ast) := HBLW.out.cell 2
      have hsz := HB.out.size
      have HSZ := Lib.hid hsz
      have hbw : Below w.heap.size w wr := HB.out
      have HAT := Lib.hid (refAt_any At n c i wr.heap.size t wr.drew (show Reads wr.drew wr.heap.size 1 At n c (t.map (Value.int .i64)) from ((HTX.out.go fun b hb => hbw.block b (HS.out b hb)).reads fun b hb => Nat.lt_of_lt_of_le (HS.out b hb) hbw.size)) (by omega))
      have hab := HAV.out
      have hbd := atBits_bd t i
      obtain ⟨sb, hsb⟩ : ∃ sb : Nat, atBits t i = (sb : Int) := ⟨(atBits t i).toNat, by omega⟩
      have HBIT := Lib.hid (show decide (0 < bits .and .i64 (atBits t i) ast) = asB t i ast from by
        unfold asB
        rw [hab, hsb]
        exact and_bit j HJ.out sb (by omega))
      have HKC := Lib.hid (show ∀ v : Value, (wr.setCell ⟨g, i, none⟩ v).drew.cell? ⟨b, o + i, none⟩ = some (.slice (some ⟨g, 0, none⟩) (n + 1) (n + 1)) ∧ (wr.setCell ⟨g, i, none⟩ v).drew.cell? ⟨w.heap.size, 2, none⟩ = some (.int .i64 ast) from fun v => by
        have hk : Kept wr (wr.setCell ⟨g, i, none⟩ v) [g] := Kept.setCell _ _
        exact ⟨(hk.cell (p := ⟨b, o + i, none⟩) HT.out.out.2.1 (by simp; intro e; exact HT.out.out.2.2 (by rw [e]; exact List.mem_of_getElem? HG.out))).trans hc, (hk.cell (p := ⟨w.heap.size, 2, none⟩) HBLW.out.lt (by simp; omega)).trans r2⟩)
      have kA : wr.drew.cell? ⟨b, o + i, none⟩ = some (.slice (some ⟨g, 0, none⟩) (n + 1) (n + 1)) ∧ wr.drew.cell? ⟨w.heap.size, 2, none⟩ = some (.int .i64 ast) := ⟨hc, r2⟩
      generalize hE : atBits t i = E at *
      clear hab hbd hsb hck hfz hg hbw
      go_wp2_with fail
      go_region_held_law (fun u => u.cell? ⟨b, o + i, none⟩ = some (.slice (some ⟨g, 0, none⟩) (n + 1) (n + 1)) ∧ u.cell? ⟨w.heap.size, 2, none⟩ = some (.int .i64 ast)) (first | with_reducible exact kA | with_reducible exact HKC.out _) (first
        | (go_at_call 35; (with_reducible refine HAT.out.mono ?_); rintro e w' ⟨rfl, rfl⟩; simp only []))
      go_wp2_with fail
      go_roundw
      case rel =>
        refine ⟨i + 1, by omega, by go_num, bdrewN (Below.kept HB.out (Kept.setCell _ _) (by simp; omega) HB.out.size) 1, ((HBLW.out.far (p := ⟨g, i, none⟩) (by simp; omega) _ : Blk (wr.setCell ⟨g, i, none⟩ _) w.heap.size 28 [.int .i64 3, .slice ra r.length rc, .int .i64 ast, .slice sa l.length sc, .int .i64 mn, .int .i64 mx, .bool z, .int .i64 ix, .string nm]).drew), ((HT.out.set_ HG.out _).congr fun a x ha hx => ?_ : Tab (wr.setCell ⟨g, i, none⟩ _) (w.heap.size + 1) b o (n + 1) gs _).below (bdrewN (Below.refl _ _) 1)⟩
        unfold upd
        by_cases e : a = i ∧ x = i
        · rw [if_pos e]; obtain ⟨rfl, rfl⟩ := e; rw [HBIT.out]; simp
        · rw [if_neg e]
          simp only []
          have hd : decide (a = x ∧ a < i) = decide (a = x ∧ a < i + 1) := by rw [decide_eq_decide]; omega
          rw [hd]
      case measure => simp [intOf]; omega
    · obtain rfl : i = n + 1 := by omega
      have hlt2 : ¬ (((n + 1 : Nat) : Int) < (n : Int) + 1) := by omega
      go_wp2_with fail
      go_ret
      have HLT := show ∀ i j, LT t (Ta.mk 3 r ra rc ast l sa sc mn mx z ix nm).tr i j ↔ asB t i ast = true ∧ i = j from fun i j => by rw [Ta.tr, LT]; simp
      exact ⟨_, ⟨b, o, c1, gs, rfl, HB.out, HT.out.low (Nat.le_succ _)⟩, fun i j hi hj => by rw [HLT]; simp [hi, and_comm]⟩
end Go.Proofs.Ytjeljlgjkjeloaa
