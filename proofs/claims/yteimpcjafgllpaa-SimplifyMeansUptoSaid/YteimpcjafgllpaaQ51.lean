/- heronlaw07.sameParses: two lists of parses that are the same, captures that are not there counted as -1: true. -/
import Derived.BigQuiet
import Derived.BigRegion
import Derived.Deep.QuietTactic
import Derived.Test.YteimpcjafgllpaaQ07
namespace Go.Proofs.Yteimpcjafgllpaa
open Go.RowKit
set_option maxRecDepth 100000 in
set_option maxHeartbeats 4000000 in
theorem samePs_any (A B : Option Addr) (ac bc m : Nat) (pa pb : List (Nat × Option Addr × Nat × List Int)) (w : World) (ha : Reads w w.heap.size 2 A pa.length ac (outW pa)) (hb : Reads w w.heap.size 2 B pb.length bc (outW pb))
    (hca : ∀ p ∈ pa, Reads w w.heap.size 1 p.2.1 p.2.2.2.length p.2.2.1 (p.2.2.2.map (Value.int .i64))) (hcb : ∀ p ∈ pb, Reads w w.heap.size 1 p.2.1 p.2.2.2.length p.2.2.1 (p.2.2.2.map (Value.int .i64)))
    (hla : pa.length = m) (hlb : pb.length = m) (hs : ∀ (i : Nat) p q, pa[i]? = some p → pb[i]? = some q → p.1 = q.1 ∧ ∀ k : Nat, p.2.2.2.getD k (-1) = q.2.2.2.getD k (-1)) :
    Calls Try.prog 10 #[.slice A m ac, .slice B m bc] w fun e w' => e = .returned (.bool true) ∧ Below w.heap.size w w' := by
  have hac := ha.1
  have hac2 := ha.2.1
  have hbc := hb.1
  have hbc2 := hb.2.1
  rw [hla] at hac
  rw [hlb] at hbc
  have HA := Lib.hid ha
  have HB := Lib.hid hb
  have HCA := Lib.hid hca
  have HCB := Lib.hid hcb
  have HLA := Lib.hid hla
  have HLB := Lib.hid hlb
  have HS := Lib.hid hs
  clear ha hb hca hcb hs hla hlb
  go_enter Try.func10, Try.ntmps10
  go_wp2_with fail
  go_loopw [5] (fun iv wr => ∃ i : Nat, i ≤ m ∧ iv = .int .i64 (i : Int) ∧ Below w.heap.size w wr) (fun iv _ => m - (intOf iv).toNat)
  case atStart => exact ⟨0, Nat.zero_le _, rfl, Below.refl _ _⟩
  case round =>
    obtain ⟨i, hi, rfl, hb⟩ := hrel
    obtain ⟨wo, hwo⟩ : ∃ wo, wo = wr := ⟨_, rfl⟩
    subst hwo
    have HBW := Lib.hid hb
    clear hb
    by_cases hlt : i < m
    · have hlt2 : (i : Int) < (m : Int) := by omega
      obtain ⟨b1, f1, rfl, hbl1, hc1⟩ := HA.out.at_ (by rw [HLA.out]; omega)
      obtain ⟨b2, f2, rfl, hbl2, hc2⟩ := HB.out.at_ (by rw [HLB.out]; omega)
      obtain ⟨p, hp⟩ : ∃ p, pa[i]? = some p := ⟨_, List.getElem?_eq_getElem (by rw [HLA.out]; exact hlt)⟩
      obtain ⟨q, hq⟩ : ∃ q, pb[i]? = some q := ⟨_, List.getElem?_eq_getElem (by rw [HLB.out]; exact hlt)⟩
      obtain ⟨hpq, hcaps⟩ := HS.out i p q hp hq
      obtain ⟨hp0, hp1⟩ := outW_get pa i p hp
      obtain ⟨hq0, hq1⟩ := outW_get pb i q hq
      have hrp := HCA.out p (List.mem_of_getElem? hp)
      have hrq := HCB.out q (List.mem_of_getElem? hq)
      obtain ⟨pe, pA, pc, pl⟩ := p
      obtain ⟨qe, qA, qc, ql⟩ := q
      simp only [] at hpq hcaps hp0 hp1 hq0 hq1 hrp hrq
      subst hpq
      have HRP := Lib.hid hrp
      have HRQ := Lib.hid hrq
      have HCP := Lib.hid hcaps
      have e1 : wo.cell? ⟨b1, f1 + i * 2, none⟩ = some (.int .i64 (pe : Int)) := (HBW.out.cell (p := ⟨b1, f1 + i * 2, none⟩) hbl1).trans (hc1 (i * 2) _ hp0)
      have e2 : wo.cell? ⟨b2, f2 + i * 2, none⟩ = some (.int .i64 (pe : Int)) := (HBW.out.cell (p := ⟨b2, f2 + i * 2, none⟩) hbl2).trans (hc2 (i * 2) _ hq0)
      have x1 : ∀ wr : World, Below w.heap.size w wr → wr.cell? ⟨b1, f1 + i * 2 + 1, none⟩ = some (.slice pA pl.length pc) := fun wr h => (h.cell (p := ⟨b1, f1 + i * 2 + 1, none⟩) hbl1).trans (hc1 (i * 2 + 1) _ hp1)
      have x2 : ∀ wr : World, Below w.heap.size w wr → wr.cell? ⟨b2, f2 + i * 2 + 1, none⟩ = some (.slice qA ql.length qc) := fun wr h => (h.cell (p := ⟨b2, f2 + i * 2 + 1, none⟩) hbl2).trans (hc2 (i * 2 + 1) _ hq1)
      have e3 := x1 wo HBW.out
      have e4 := x2 wo HBW.out
      have X1 := Lib.hid x1
      have X2 := Lib.hid x2
      clear hp hq hc1 hc2 hp0 hp1 hq0 hq1 hrp hrq hcaps x1 x2
      generalize hpn : pl.length = pn at *
      generalize hqn : ql.length = qn at *
      have HPN := Lib.hid hpn
      have HQN := Lib.hid hqn
      have hpn63 := HRP.out.2.1
      have hpnc := HRP.out.1
      have hqn63 := HRQ.out.2.1
      have hqnc := HRQ.out.1
      clear hpn hqn
      go_wp2_with fail
      go_quiet (fail)
      go_wp2_with fail
      rcases Nat.lt_or_ge pn qn with hmn | hmn
      · have hmi: (pn : Int) < (qn : Int) := by omega
        go_region
        all_goals (try (exfalso; omega))
        go_wp2_with fail
        go_loopw [7] (fun iv wr => ∃ k : Nat, k ≤ qn ∧ iv = .int .i64 (k : Int) ∧ Below wo.heap.size wo wr) (fun iv _ => qn - (intOf iv).toNat)
        case atStart => exact ⟨0, Nat.zero_le _, rfl, bdrewN (Below.refl _ _) _⟩
        case round =>
          obtain ⟨k, hk, rfl, hq⟩ := hrel
          have HQ := Lib.hid hq
          have HWQ := Lib.hid (HBW.out.trans (hq.mono HBW.out.size))
          have e3 := X1.out wr HWQ.out
          have e4 := X2.out wr HWQ.out
          clear hq
          by_cases hkl : k < qn
          · have hkl2 : (k : Int) < (qn : Int) := by omega
            by_cases hko : k < pn
            · have hko2 : (k : Int) < (pn : Int) := by omega
              obtain ⟨d1, g1, hd1, hd1l, hd1c⟩ := HRP.out.at_ (by omega)
              subst hd1
              have y1 : wr.cell? ⟨d1, g1 + k, none⟩ = some (.int .i64 (pl.getD k (-1))) := (HWQ.out.cell (p := ⟨d1, g1 + k, none⟩) hd1l).trans (hd1c k _ (by rw [List.getElem?_map, List.getD_eq_getElem?_getD, List.getElem?_eq_getElem (by rw [HPN.out]; omega)]; rfl))
              clear hd1c
              obtain ⟨d2, g2, hd2, hd2l, hd2c⟩ := HRQ.out.at_ (by omega)
              subst hd2
              have y2 : wr.cell? ⟨d2, g2 + k, none⟩ = some (.int .i64 (ql.getD k (-1))) := (HWQ.out.cell (p := ⟨d2, g2 + k, none⟩) hd2l).trans (hd2c k _ (by rw [List.getElem?_map, List.getD_eq_getElem?_getD, List.getElem?_eq_getElem (by rw [HQN.out]; omega)]; rfl))
              clear hd2c
              have hcv := HCP.out k
              rw [hcv] at y1
              generalize ql.getD k (-1) = yv at *
              clear hcv
              go_wp2_with fail
              exact ⟨⟨k + 1, by omega, by go_num, HQ.out⟩, by simp [intOf]; omega⟩
            · have hko2 : ¬ ((k : Int) < (pn : Int)) := by omega
              obtain ⟨d2, g2, hd2, hd2l, hd2c⟩ := HRQ.out.at_ (by omega)
              subst hd2
              have y2 : wr.cell? ⟨d2, g2 + k, none⟩ = some (.int .i64 (ql.getD k (-1))) := (HWQ.out.cell (p := ⟨d2, g2 + k, none⟩) hd2l).trans (hd2c k _ (by rw [List.getElem?_map, List.getD_eq_getElem?_getD, List.getElem?_eq_getElem (by rw [HQN.out]; omega)]; rfl))
              clear hd2c
              have hcv := HCP.out k
              have hno : pl.getD k (-1) = -1 := by rw [List.getD_eq_getElem?_getD, List.getElem?_eq_none (by rw [HPN.out]; omega)]; rfl
              rw [hno] at hcv
              rw [← hcv] at y2
              clear hcv hno
              go_wp2_with fail
              exact ⟨⟨k + 1, by omega, by go_num, HQ.out⟩, by simp [intOf]; omega⟩
          · obtain rfl : k = qn := by omega
            have hkl2 : ¬ ((k : Int) < (k : Int)) := by omega
            go_wp2_with fail
            go_roundw
            case rel => exact ⟨i + 1, by omega, by go_num, HWQ.out⟩
            case measure => simp [intOf]; omega
      · have hmi: ¬ ((pn : Int) < (qn : Int)) := by omega
        go_region
        all_goals (try (exfalso; omega))
        go_wp2_with fail
        go_loopw [7] (fun iv wr => ∃ k : Nat, k ≤ pn ∧ iv = .int .i64 (k : Int) ∧ Below wo.heap.size wo wr) (fun iv _ => pn - (intOf iv).toNat)
        case atStart => exact ⟨0, Nat.zero_le _, rfl, bdrewN (Below.refl _ _) _⟩
        case round =>
          obtain ⟨k, hk, rfl, hq⟩ := hrel
          have HQ := Lib.hid hq
          have HWQ := Lib.hid (HBW.out.trans (hq.mono HBW.out.size))
          have e3 := X1.out wr HWQ.out
          have e4 := X2.out wr HWQ.out
          clear hq
          by_cases hkl : k < pn
          · have hkl2 : (k : Int) < (pn : Int) := by omega
            by_cases hko : k < qn
            · have hko2 : (k : Int) < (qn : Int) := by omega
              obtain ⟨d1, g1, hd1, hd1l, hd1c⟩ := HRP.out.at_ (by omega)
              subst hd1
              have y1 : wr.cell? ⟨d1, g1 + k, none⟩ = some (.int .i64 (pl.getD k (-1))) := (HWQ.out.cell (p := ⟨d1, g1 + k, none⟩) hd1l).trans (hd1c k _ (by rw [List.getElem?_map, List.getD_eq_getElem?_getD, List.getElem?_eq_getElem (by rw [HPN.out]; omega)]; rfl))
              clear hd1c
              obtain ⟨d2, g2, hd2, hd2l, hd2c⟩ := HRQ.out.at_ (by omega)
              subst hd2
              have y2 : wr.cell? ⟨d2, g2 + k, none⟩ = some (.int .i64 (ql.getD k (-1))) := (HWQ.out.cell (p := ⟨d2, g2 + k, none⟩) hd2l).trans (hd2c k _ (by rw [List.getElem?_map, List.getD_eq_getElem?_getD, List.getElem?_eq_getElem (by rw [HQN.out]; omega)]; rfl))
              clear hd2c
              have hcv := HCP.out k
              rw [hcv] at y1
              generalize ql.getD k (-1) = yv at *
              clear hcv
              go_wp2_with fail
              exact ⟨⟨k + 1, by omega, by go_num, HQ.out⟩, by simp [intOf]; omega⟩
            · have hko2 : ¬ ((k : Int) < (qn : Int)) := by omega
              obtain ⟨d1, g1, hd1, hd1l, hd1c⟩ := HRP.out.at_ (by omega)
              subst hd1
              have y1 : wr.cell? ⟨d1, g1 + k, none⟩ = some (.int .i64 (pl.getD k (-1))) := (HWQ.out.cell (p := ⟨d1, g1 + k, none⟩) hd1l).trans (hd1c k _ (by rw [List.getElem?_map, List.getD_eq_getElem?_getD, List.getElem?_eq_getElem (by rw [HPN.out]; omega)]; rfl))
              clear hd1c
              have hcv := HCP.out k
              have hno : ql.getD k (-1) = -1 := by rw [List.getD_eq_getElem?_getD, List.getElem?_eq_none (by rw [HQN.out]; omega)]; rfl
              rw [hno] at hcv
              rw [hcv] at y1
              clear hcv hno
              go_wp2_with fail
              exact ⟨⟨k + 1, by omega, by go_num, HQ.out⟩, by simp [intOf]; omega⟩
          · obtain rfl : k = pn := by omega
            have hkl2 : ¬ ((k : Int) < (k : Int)) := by omega
            go_wp2_with fail
            go_roundw
            case rel => exact ⟨i + 1, by omega, by go_num, HWQ.out⟩
            case measure => simp [intOf]; omega
    · obtain rfl : i = m := by omega
      have hlt2 : ¬ ((i : Int) < (i : Int)) := by omega
      go_wp2_with fail
      go_ret
      exact ⟨rfl, HBW.out⟩
end Go.Proofs.Yteimpcjafgllpaa
