/- meaning.walker.begin: a node that was begun before. -/
import Derived.Test.YtjeljlgjkjeloaaQKtW
namespace Go.Proofs.Ytjeljlgjkjeloaa
open Go.RowKit

set_option maxRecDepth 100000 in
set_option maxHeartbeats 4000000 in
theorem beg_met (G : Wk) (hwf : G.wf) (s s' : Mean.St) (n : Mean.Un) (pl : Nat) (nt : List Int) (K : Mean.Kt) (hm : s.met (n.ad, pl, false) ≠ 0) (h : True) (hb : s.calls ≤ 4611686018427387904) : G.does s (.beg n pl nt K) (s.mark (n.ad, pl, false)) := by
  intro hn hpl hlen w v N c hc hs hr hk
  obtain ⟨vf, vc, rfl, hgo⟩ := kv_func hk
  obtain ⟨f3, hs3, x1, x2, x3⟩ := boxes3 hc hs 53 59 77 (.pointer (some ⟨G.wb, 0, none⟩)) (.pointer (some ⟨n.ad, 0, none⟩)) (.func (Fn.func vf) #[] vc)
  have HF3 := Lib.hid f3
  have HC3 := Lib.hid (hc.fr f3)
  have HR3 := Lib.hid (hr.fr f3)
  have HK3 := Lib.hid (Wk.kv_fr f3 hk)
  have HON := Lib.hid (once_any G _ s (n.ad, pl, false) (hc.fr f3) hs3 ⟨n, hn, rfl⟩ hb)
  have X1 := Lib.hid x1
  have X2 := Lib.hid x2
  have X3 := Lib.hid x3
  have c1 := x1.2
  have c2 := x2.2
  have c3 := x3.2
  have HH := Lib.hid h
  have HWF := Lib.hid hwf
  clear f3 hs3 x1 x2 x3 hc hs hr hk h hwf
  generalize hw3 : ((w.alloc (.cells #[.pointer (some ⟨G.wb, 0, none⟩)] 53)).alloc (.cells #[.pointer (some ⟨n.ad, 0, none⟩)] 59)).alloc (.cells #[.func (Fn.func vf) #[] vc] 77) = w3 at *
  unfold kv at HON
  generalize hq1 : w.heap.size = q1 at *
  go_enter Try.func27, Try.ntmps27
  go_wp2_with fail
  refine HON.out.mono ?_
  rintro e w4 ⟨rfl, hf4, hs4⟩
  have HF4 := Lib.hid hf4
  have HS4 := Lib.hid hs4
  have Y1 := Lib.hid (X1.out.fr hf4)
  have Y2 := Lib.hid (X2.out.fr hf4)
  have Y3 := Lib.hid (X3.out.fr hf4)
  have HC4 := Lib.hid (HC3.out.fr hf4)
  have HR4 := Lib.hid (HR3.out.fr hf4)
  have HK4 := Lib.hid (Wk.kv_fr hf4 HK3.out)
  have m1 := Y1.out.2
  have m2 := Y2.out.2
  have m3 := Y3.out.2
  obtain ⟨ra, rc, sa, sc, hnd⟩ := HC4.out.nodes n hn
  have HND := Lib.hid hnd
  have n0 : w4.cell? ⟨n.ad, 0, none⟩ = some (.int .i64 n.kind) := hnd.blk.cell 0
  clear hf4 hs4 hnd c1 c2 c3 HON hw3
  have hmd : decide (s.met (n.ad, pl, false) = 0) = false := by simpa using hm
  rw [hmd]
  simp only []
  go_wp2_with fail
  refine bodyPost_ret (results_none rfl _ _ _) rfl ?_
  exact ⟨rfl, HF3.out.trans HF4.out, HS4.out⟩
end Go.Proofs.Ytjeljlgjkjeloaa
/- meaning.walker.begin: an empty node. -/
namespace Go.Proofs.Ytjeljlgjkjeloaa
open Go.RowKit

set_option maxRecDepth 100000 in
set_option maxHeartbeats 4000000 in
theorem beg_1 (G : Wk) (hwf : G.wf) (s s' : Mean.St) (n : Mean.Un) (pl : Nat) (nt : List Int) (K : Mean.Kt) (hkind : n.kind = 1) (hm : s.met (n.ad, pl, false) = 0) (h : G.chain (s.mark (n.ad, pl, false)) (Mean.first G.t n pl nt K) s') (hb : s.calls ≤ 4611686018427387904) : G.does s (.beg n pl nt K) s' := by
  intro hn hpl hlen w v N c hc hs hr hk
  obtain ⟨vf, vc, rfl, hgo⟩ := kv_func hk
  obtain ⟨f3, hs3, x1, x2, x3⟩ := boxes3 hc hs 53 59 77 (.pointer (some ⟨G.wb, 0, none⟩)) (.pointer (some ⟨n.ad, 0, none⟩)) (.func (Fn.func vf) #[] vc)
  have HF3 := Lib.hid f3
  have HC3 := Lib.hid (hc.fr f3)
  have HR3 := Lib.hid (hr.fr f3)
  have HK3 := Lib.hid (Wk.kv_fr f3 hk)
  have HON := Lib.hid (once_any G _ s (n.ad, pl, false) (hc.fr f3) hs3 ⟨n, hn, rfl⟩ hb)
  have X1 := Lib.hid x1
  have X2 := Lib.hid x2
  have X3 := Lib.hid x3
  have c1 := x1.2
  have c2 := x2.2
  have c3 := x3.2
  have HH := Lib.hid h
  have HWF := Lib.hid hwf
  clear f3 hs3 x1 x2 x3 hc hs hr hk h hwf
  generalize hw3 : ((w.alloc (.cells #[.pointer (some ⟨G.wb, 0, none⟩)] 53)).alloc (.cells #[.pointer (some ⟨n.ad, 0, none⟩)] 59)).alloc (.cells #[.func (Fn.func vf) #[] vc] 77) = w3 at *
  unfold kv at HON
  generalize hq1 : w.heap.size = q1 at *
  go_enter Try.func27, Try.ntmps27
  go_wp2_with fail
  refine HON.out.mono ?_
  rintro e w4 ⟨rfl, hf4, hs4⟩
  have HF4 := Lib.hid hf4
  have HS4 := Lib.hid hs4
  have Y1 := Lib.hid (X1.out.fr hf4)
  have Y2 := Lib.hid (X2.out.fr hf4)
  have Y3 := Lib.hid (X3.out.fr hf4)
  have HC4 := Lib.hid (HC3.out.fr hf4)
  have HR4 := Lib.hid (HR3.out.fr hf4)
  have HK4 := Lib.hid (Wk.kv_fr hf4 HK3.out)
  have m1 := Y1.out.2
  have m2 := Y2.out.2
  have m3 := Y3.out.2
  obtain ⟨ra, rc, sa, sc, hnd⟩ := HC4.out.nodes n hn
  have HND := Lib.hid hnd
  have n0 : w4.cell? ⟨n.ad, 0, none⟩ = some (.int .i64 n.kind) := hnd.blk.cell 0
  clear hf4 hs4 hnd c1 c2 c3 HON hw3
  rw [hkind] at n0
  have hmd : decide (s.met (n.ad, pl, false) = 0) = true := by simpa using hm
  rw [hmd]
  have hh := HH.out
  unfold Mean.first at hh
  simp only [hkind] at hh
  clear hmd HH
  simp only [if_true] at hh
  obtain ⟨s1, h1, rfl⟩ := hh
  obtain ⟨f9, c9, he9, -, hcall⟩ := h1 hpl hlen w4 _ N c HC4.out HS4.out HR4.out HK4.out
  cases he9
  have HCALL := Lib.hid hcall
  clear hcall h1
  simp only []
  go_wp2_with fail
  refine HCALL.out.mono ?_
  rintro e w5 ⟨rfl, hx⟩
  have HX := Lib.hid hx
  clear hx
  simp only []
  go_wp2_with fail
  go_end0
  exact ⟨rfl, HF3.out.trans (HF4.out.trans HX.out.1), HX.out.2⟩
end Go.Proofs.Ytjeljlgjkjeloaa
/- meaning.walker.begin: nodes one behind the other. -/
namespace Go.Proofs.Ytjeljlgjkjeloaa
open Go.RowKit

set_option maxRecDepth 100000 in
set_option maxHeartbeats 4000000 in
theorem beg_4 (G : Wk) (hwf : G.wf) (s s' : Mean.St) (n : Mean.Un) (pl : Nat) (nt : List Int) (K : Mean.Kt) (hkind : n.kind = 4) (hm : s.met (n.ad, pl, false) = 0) (h : G.chain (s.mark (n.ad, pl, false)) (Mean.first G.t n pl nt K) s') (hb : s.calls ≤ 4611686018427387904) : G.does s (.beg n pl nt K) s' := by
  intro hn hpl hlen w v N c hc hs hr hk
  obtain ⟨vf, vc, rfl, hgo⟩ := kv_func hk
  obtain ⟨f3, hs3, x1, x2, x3⟩ := boxes3 hc hs 53 59 77 (.pointer (some ⟨G.wb, 0, none⟩)) (.pointer (some ⟨n.ad, 0, none⟩)) (.func (Fn.func vf) #[] vc)
  have HF3 := Lib.hid f3
  have HC3 := Lib.hid (hc.fr f3)
  have HR3 := Lib.hid (hr.fr f3)
  have HK3 := Lib.hid (Wk.kv_fr f3 hk)
  have HON := Lib.hid (once_any G _ s (n.ad, pl, false) (hc.fr f3) hs3 ⟨n, hn, rfl⟩ hb)
  have X1 := Lib.hid x1
  have X2 := Lib.hid x2
  have X3 := Lib.hid x3
  have c1 := x1.2
  have c2 := x2.2
  have c3 := x3.2
  have HH := Lib.hid h
  have HWF := Lib.hid hwf
  clear f3 hs3 x1 x2 x3 hc hs hr hk h hwf
  generalize hw3 : ((w.alloc (.cells #[.pointer (some ⟨G.wb, 0, none⟩)] 53)).alloc (.cells #[.pointer (some ⟨n.ad, 0, none⟩)] 59)).alloc (.cells #[.func (Fn.func vf) #[] vc] 77) = w3 at *
  unfold kv at HON
  generalize hq1 : w.heap.size = q1 at *
  go_enter Try.func27, Try.ntmps27
  go_wp2_with fail
  refine HON.out.mono ?_
  rintro e w4 ⟨rfl, hf4, hs4⟩
  have HF4 := Lib.hid hf4
  have HS4 := Lib.hid hs4
  have Y1 := Lib.hid (X1.out.fr hf4)
  have Y2 := Lib.hid (X2.out.fr hf4)
  have Y3 := Lib.hid (X3.out.fr hf4)
  have HC4 := Lib.hid (HC3.out.fr hf4)
  have HR4 := Lib.hid (HR3.out.fr hf4)
  have HK4 := Lib.hid (Wk.kv_fr hf4 HK3.out)
  have m1 := Y1.out.2
  have m2 := Y2.out.2
  have m3 := Y3.out.2
  obtain ⟨ra, rc, sa, sc, hnd⟩ := HC4.out.nodes n hn
  have HND := Lib.hid hnd
  have n0 : w4.cell? ⟨n.ad, 0, none⟩ = some (.int .i64 n.kind) := hnd.blk.cell 0
  clear hf4 hs4 hnd c1 c2 c3 HON hw3
  rw [hkind] at n0
  have hmd : decide (s.met (n.ad, pl, false) = 0) = true := by simpa using hm
  rw [hmd]
  have hh := HH.out
  unfold Mean.first at hh
  simp only [hkind] at hh
  clear hmd HH
  simp only [reduceIte, Int.reduceNeg, Int.reduceEq] at hh
  obtain ⟨s1, h1, rfl⟩ := hh
  have fd : G.fr w4 w4.drew := HC4.out.below (bdrewN (Below.refl _ _) 1)
  have HFD := Lib.hid fd
  have HCD := Lib.hid (HC4.out.fr fd)
  have HSD := Lib.hid (HS4.out.kept_below HC4.out (bdrewN (Below.refl _ _) 1))
  have HRD := Lib.hid (HR4.out.fr fd)
  have HKD := Lib.hid (Wk.kv_fr fd HK4.out)
  have Z1 := Lib.hid (Y1.out.fr fd)
  have Z2 := Lib.hid (Y2.out.fr fd)
  have Z3 := Lib.hid (Y3.out.fr fd)
  have HNDD := Lib.hid (HND.out.fr fd)
  clear fd
  have HRW := Lib.hid (row_any G _ s' n.subs K pl nt h1 (HWF.out.closed n hn) hpl hlen w4.drew _ N sa c sc HCD.out HSD.out HRD.out HKD.out HNDD.out.subs)
  have kA : w4.drew.cell? ⟨q1, 0, none⟩ = some (.pointer (some ⟨G.wb, 0, none⟩)) ∧ w4.drew.cell? ⟨q1 + 1, 0, none⟩ = some (.pointer (some ⟨n.ad, 0, none⟩)) ∧ w4.drew.cell? ⟨n.ad, 5, none⟩ = some (.slice sa n.subs.length sc) ∧ w4.drew.cell? ⟨q1 + 1 + 1, 0, none⟩ = some (.func (Fn.func vf) #[] vc) := And.intro (Z1.out.2) (And.intro (Z2.out.2) (And.intro (HNDD.out.blk.cell 5) (Z3.out.2)))
  clear h1
  simp only []
  go_wp2_with fail
  go_region_held_law (fun u => u.cell? ⟨q1, 0, none⟩ = some (.pointer (some ⟨G.wb, 0, none⟩)) ∧ u.cell? ⟨q1 + 1, 0, none⟩ = some (.pointer (some ⟨n.ad, 0, none⟩)) ∧ u.cell? ⟨n.ad, 5, none⟩ = some (.slice sa n.subs.length sc) ∧ u.cell? ⟨q1 + 1 + 1, 0, none⟩ = some (.func (Fn.func vf) #[] vc)) (first | with_reducible exact kA | with_reducible exact kB)
    (first | (go_at_call 46; (with_reducible refine HRW.out.mono ?_); rintro e w5 ⟨rfl, hx⟩; have HX := Lib.hid hx; have kB := And.intro ((Z1.out.1.cell hx.1 (0)).trans kA.1) (And.intro ((Z2.out.1.cell hx.1 (0)).trans kA.2.1) (And.intro ((HNDD.out.still.cell hx.1 (5)).trans kA.2.2.1) ((Z3.out.1.cell hx.1 (0)).trans kA.2.2.2))); clear hx; simp only []))
  go_wp2_with fail
  go_end0
  exact ⟨rfl, HF3.out.trans (HF4.out.trans (HFD.out.trans HX.out.1)), HX.out.2⟩
end Go.Proofs.Ytjeljlgjkjeloaa
/- meaning.walker.begin: alternatives. -/
namespace Go.Proofs.Ytjeljlgjkjeloaa
open Go.RowKit

set_option maxRecDepth 100000 in
set_option maxHeartbeats 4000000 in
theorem beg_5 (G : Wk) (hwf : G.wf) (s s' : Mean.St) (n : Mean.Un) (pl : Nat) (nt : List Int) (K : Mean.Kt) (hkind : n.kind = 5) (hm : s.met (n.ad, pl, false) = 0) (h : G.chain (s.mark (n.ad, pl, false)) (Mean.first G.t n pl nt K) s') (hb : s.calls ≤ 4611686018427387904) : G.does s (.beg n pl nt K) s' := by
  intro hn hpl hlen w v N c hc hs hr hk
  obtain ⟨vf, vc, rfl, hgo⟩ := kv_func hk
  obtain ⟨f3, hs3, x1, x2, x3⟩ := boxes3 hc hs 53 59 77 (.pointer (some ⟨G.wb, 0, none⟩)) (.pointer (some ⟨n.ad, 0, none⟩)) (.func (Fn.func vf) #[] vc)
  have HF3 := Lib.hid f3
  have HC3 := Lib.hid (hc.fr f3)
  have HR3 := Lib.hid (hr.fr f3)
  have HK3 := Lib.hid (Wk.kv_fr f3 hk)
  have HON := Lib.hid (once_any G _ s (n.ad, pl, false) (hc.fr f3) hs3 ⟨n, hn, rfl⟩ hb)
  have X1 := Lib.hid x1
  have X2 := Lib.hid x2
  have X3 := Lib.hid x3
  have c1 := x1.2
  have c2 := x2.2
  have c3 := x3.2
  have HH := Lib.hid h
  have HWF := Lib.hid hwf
  clear f3 hs3 x1 x2 x3 hc hs hr hk h hwf
  generalize hw3 : ((w.alloc (.cells #[.pointer (some ⟨G.wb, 0, none⟩)] 53)).alloc (.cells #[.pointer (some ⟨n.ad, 0, none⟩)] 59)).alloc (.cells #[.func (Fn.func vf) #[] vc] 77) = w3 at *
  unfold kv at HON
  generalize hq1 : w.heap.size = q1 at *
  go_enter Try.func27, Try.ntmps27
  go_wp2_with fail
  refine HON.out.mono ?_
  rintro e w4 ⟨rfl, hf4, hs4⟩
  have HF4 := Lib.hid hf4
  have HS4 := Lib.hid hs4
  have Y1 := Lib.hid (X1.out.fr hf4)
  have Y2 := Lib.hid (X2.out.fr hf4)
  have Y3 := Lib.hid (X3.out.fr hf4)
  have HC4 := Lib.hid (HC3.out.fr hf4)
  have HR4 := Lib.hid (HR3.out.fr hf4)
  have HK4 := Lib.hid (Wk.kv_fr hf4 HK3.out)
  have m1 := Y1.out.2
  have m2 := Y2.out.2
  have m3 := Y3.out.2
  obtain ⟨ra, rc, sa, sc, hnd⟩ := HC4.out.nodes n hn
  have HND := Lib.hid hnd
  have n0 : w4.cell? ⟨n.ad, 0, none⟩ = some (.int .i64 n.kind) := hnd.blk.cell 0
  clear hf4 hs4 hnd c1 c2 c3 HON hw3
  rw [hkind] at n0
  have hmd : decide (s.met (n.ad, pl, false) = 0) = true := by simpa using hm
  rw [hmd]
  have hh := HH.out
  unfold Mean.first at hh
  simp only [hkind] at hh
  clear hmd HH
  simp only [reduceIte, Int.reduceNeg, Int.reduceEq] at hh
  have n5 : w4.cell? ⟨n.ad, 5, none⟩ = some (.slice sa n.subs.length sc) := HND.out.blk.cell 5
  have HHH := Lib.hid hh
  have hfew := HWF.out.few n hn
  clear hh
  simp only []
  go_wp2_with fail
  go_loopw [91] (fun iv W => ∃ i : Nat, i ≤ n.subs.length ∧ iv = .int .i64 (i : Int) ∧ ∃ si, G.fr w4 W ∧ G.st W si ∧ G.chain si ((n.subs.drop i).map fun x => Mean.Task.beg x pl nt K) s') (fun iv _ => n.subs.length - (intOf iv).toNat)
  case atStart => exact ⟨0, Nat.zero_le _, rfl, _, HC4.out.refl, HS4.out, by rw [List.drop_zero]; exact HHH.out⟩
  case round =>
    obtain ⟨i, hi, rfl, si, hfi, hsi, hch⟩ := hrel
    by_cases hlt : i < n.subs.length
    · have hlti : (i : Int) < (n.subs.length : Int) := by omega
      rw [List.drop_eq_getElem_cons hlt, List.map_cons] at hch
      obtain ⟨s1, h1, h2⟩ := hch
      obtain ⟨ab, ao, hsa, hab, hac⟩ := rd_pos HND.out.subs (by omega)
      subst hsa
      have hsu : n.subs[i] ∈ G.U := HWF.out.closed n hn _ (List.getElem_mem hlt)
      have r0 : wr.cell? ⟨ab, ao + i, none⟩ = some (.pointer (some ⟨(n.subs[i]).ad, 0, none⟩)) := (hab.cell hfi (ao + i)).trans (hac i _ (by unfold ptrs; rw [List.getElem?_map, List.getElem?_eq_getElem hlt]; rfl))
      have r1 := (Y1.out.fr hfi).2
      have r3 := (Y3.out.fr hfi).2
      have HBG := Lib.hid (h1 hsu hpl hlen wr _ N c (HC4.out.fr hfi) hsi (HR4.out.fr hfi) (Wk.kv_fr hfi HK4.out))
      have HFI := Lib.hid hfi
      have HH2 := Lib.hid h2
      have hwi : IntKind.i64.wrap ((i : Int) + 1) = ((i + 1 : Nat) : Int) := by rw [IntKind.wrap_i64]; omega
      generalize (n.subs[i]).ad = sad at *
      clear h1 h2 hfi hsi hab hac m1 m2 m3 n0 n5
      go_wp2_with fail
      refine HBG.out.mono ?_
      rintro e w5 ⟨rfl, hx⟩
      have HX := Lib.hid hx
      clear hx
      simp only []
      go_wp2_with fail
      go_roundw
      case rel => exact ⟨i + 1, hlt, by go_num, _, HFI.out.trans HX.out.1, HX.out.2, HH2.out⟩
      case measure => simp [intOf]; omega
    · have hlti : ¬ ((i : Int) < (n.subs.length : Int)) := by omega
      rw [List.drop_of_length_le (by omega)] at hch
      obtain rfl : s' = si := hch
      have HFI := Lib.hid hfi
      have HSI := Lib.hid hsi
      clear hfi hsi m1 m2 m3 n0 n5
      go_wp2_with fail
      go_end0
      exact ⟨rfl, HF3.out.trans (HF4.out.trans HFI.out), HSI.out⟩
end Go.Proofs.Ytjeljlgjkjeloaa
