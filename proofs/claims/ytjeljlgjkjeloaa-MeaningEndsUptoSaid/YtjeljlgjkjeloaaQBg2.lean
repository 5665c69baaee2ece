/- meaning.walker.begin: a class. -/
import Derived.Test.YtjeljlgjkjeloaaQKtW
import Derived.Test.YtjeljlgjkjeloaaQHas
namespace Go.Proofs.Ytjeljlgjkjeloaa
open Go.RowKit

set_option maxRecDepth 100000 in
set_option maxHeartbeats 4000000 in
theorem beg_2 (G : Wk) (hwf : G.wf) (s s' : Mean.St) (n : Mean.Un) (pl : Nat) (nt : List Int) (K : Mean.Kt) (hkind : n.kind = 2) (hm : s.met (n.ad, pl, false) = 0) (h : G.chain (s.mark (n.ad, pl, false)) (Mean.first G.t n pl nt K) s') (hb : s.calls ≤ 4611686018427387904) : G.does s (.beg n pl nt K) s' := by
  intro hn hpl hlen w v N c hc hs hr hk
  obtain ⟨vf, vc, rfl, hgo⟩ := kv_func hk
  obtain ⟨f3, hs3, x1, x2, x3⟩ := boxes3 hc hs 53 59 77 (.pointer (some ⟨G.wb, 0, none⟩)) (.pointer (some ⟨n.ad, 0, none⟩)) (.func (Fn.func vf) #[] vc)
  have HF3 := Lib.hid f3
  have HC3 := Lib.hid (hc.fr f3)
  have HR3 := Lib.hid (hr.fr f3)
  have HK3 := Lib.hid (Wk.kv_fr f3 hk)
  have HON := Lib.hid (once_any G _ s (n.ad, pl, false) (hc.fr f3) hs3 ⟨n, hn, rfl⟩ hb)
  have X1 := Lib.hid x1
  have X2 := Lib.hid x2
  have X3 := Lib.hid x3
  have c1 := x1.2
  have c2 := x2.2
  have c3 := x3.2
  have HH := Lib.hid h
  have HWF := Lib.hid hwf
  clear f3 hs3 x1 x2 x3 hc hs hr hk h hwf
  generalize hw3 : ((w.alloc (.cells #[.pointer (some ⟨G.wb, 0, none⟩)] 53)).alloc (.cells #[.pointer (some ⟨n.ad, 0, none⟩)] 59)).alloc (.cells #[.func (Fn.func vf) #[] vc] 77) = w3 at *
  unfold kv at HON
  generalize hq1 : w.heap.size = q1 at *
  go_enter Try.func27, Try.ntmps27
  go_wp2_with fail
  refine HON.out.mono ?_
  rintro e w4 ⟨rfl, hf4, hs4⟩
  have HF4 := Lib.hid hf4
  have HS4 := Lib.hid hs4
  have Y1 := Lib.hid (X1.out.fr hf4)
  have Y2 := Lib.hid (X2.out.fr hf4)
  have Y3 := Lib.hid (X3.out.fr hf4)
  have HC4 := Lib.hid (HC3.out.fr hf4)
  have HR4 := Lib.hid (HR3.out.fr hf4)
  have HK4 := Lib.hid (Wk.kv_fr hf4 HK3.out)
  have m1 := Y1.out.2
  have m2 := Y2.out.2
  have m3 := Y3.out.2
  obtain ⟨ra, rc, sa, sc, hnd⟩ := HC4.out.nodes n hn
  have HND := Lib.hid hnd
  have n0 : w4.cell? ⟨n.ad, 0, none⟩ = some (.int .i64 n.kind) := hnd.blk.cell 0
  clear hf4 hs4 hnd c1 c2 c3 HON hw3
  rw [hkind] at n0
  have hmd : decide (s.met (n.ad, pl, false) = 0) = true := by simpa using hm
  rw [hmd]
  have hh := HH.out
  unfold Mean.first at hh
  simp only [hkind] at hh
  clear hmd HH
  simp only [reduceIte, Int.reduceNeg, Int.reduceEq] at hh
  have fd : G.fr w4 w4.drew := HC4.out.below (bdrewN (Below.refl _ _) 1)
  have HFD := Lib.hid fd
  have HCD := Lib.hid (HC4.out.fr fd)
  have HSD := Lib.hid (HS4.out.kept_below HC4.out (bdrewN (Below.refl _ _) 1))
  have HRD := Lib.hid (HR4.out.fr fd)
  have HKD := Lib.hid (Wk.kv_fr fd HK4.out)
  have Z1 := Lib.hid (Y1.out.fr fd)
  have Z2 := Lib.hid (Y2.out.fr fd)
  have Z3 := Lib.hid (Y3.out.fr fd)
  have HNDD := Lib.hid (HND.out.fr fd)
  clear fd
  by_cases hlt : pl < G.nt
  · have hlti : (pl : Int) < (G.nt : Int) := by omega
    have hlti2 : decide ((pl : Int) < (G.nt : Int)) = true := decide_eq_true hlti
    have hltt : pl < G.t.length := by rw [HWF.out.len]; exact hlt
    obtain ⟨tb, to, hAt, htb, htc⟩ := rd_pos HCD.out.text (by omega)
    have HTB := Lib.hid htb
    have t0 : w4.drew.cell? ⟨tb, to + pl, none⟩ = some (.int .i64 (G.t.getD pl 0)) := htc pl _ (by rw [List.getElem?_map, List.getElem?_eq_getElem hltt, List.getD_eq_getElem?_getD, List.getElem?_eq_getElem hltt]; rfl)
    have t1 : w4.drew.cell? ⟨G.wb, 0, none⟩ = some (.slice (some ⟨tb, to, none⟩) G.nt G.ct) := by rw [← hAt]; exact HCD.out.wb.2.cell 0
    have HHS := Lib.hid (has_any ra n.rng.length rc (G.t.getD pl 0) n.rng w4.drew (HNDD.out.rng.reads fun b hb => hb.1))
    rw [HWF.out.cls n hn hkind, Bool.true_and] at HHS
    obtain ⟨bq, hbq⟩ : ∃ b, b = memB n.rng (G.t.getD pl 0) := ⟨_, rfl⟩
    rw [← hbq] at HHS hh
    clear hbq
    generalize G.t.getD pl 0 = rv at *
    have hshort := HWF.out.short
    have hw1 : IntKind.i64.wrap ((pl : Int) + 1) = ((pl + 1 : Nat) : Int) := by rw [IntKind.wrap_i64]; omega
    have kA : w4.drew.cell? ⟨q1, 0, none⟩ = some (.pointer (some ⟨G.wb, 0, none⟩)) ∧ w4.drew.cell? ⟨q1 + 1, 0, none⟩ = some (.pointer (some ⟨n.ad, 0, none⟩)) ∧ w4.drew.cell? ⟨n.ad, 1, none⟩ = some (.slice ra n.rng.length rc) ∧ w4.drew.cell? ⟨G.wb, 0, none⟩ = some (.slice (some ⟨tb, to, none⟩) G.nt G.ct) ∧ w4.drew.cell? ⟨tb, to + pl, none⟩ = some (.int .i64 rv) ∧ w4.drew.cell? ⟨q1 + 1 + 1, 0, none⟩ = some (.func (Fn.func vf) #[] vc) := And.intro (Z1.out.2) (And.intro (Z2.out.2) (And.intro (HNDD.out.blk.cell 1) (And.intro (t1) (And.intro (t0) (Z3.out.2)))))
    clear htb htc t0 t1 hAt
    simp only []
    go_wp2_with fail
    go_region_held_law (fun u => u.cell? ⟨q1, 0, none⟩ = some (.pointer (some ⟨G.wb, 0, none⟩)) ∧ u.cell? ⟨q1 + 1, 0, none⟩ = some (.pointer (some ⟨n.ad, 0, none⟩)) ∧ u.cell? ⟨n.ad, 1, none⟩ = some (.slice ra n.rng.length rc) ∧ u.cell? ⟨G.wb, 0, none⟩ = some (.slice (some ⟨tb, to, none⟩) G.nt G.ct) ∧ u.cell? ⟨tb, to + pl, none⟩ = some (.int .i64 rv) ∧ u.cell? ⟨q1 + 1 + 1, 0, none⟩ = some (.func (Fn.func vf) #[] vc)) (first | with_reducible exact kA | with_reducible exact kB)
      (first | (go_at_call 43; (with_reducible refine HHS.out.mono ?_); rintro e w5 ⟨rfl, hb5⟩; have f5 := HCD.out.below hb5; have kB := And.intro ((Z1.out.1.cell f5 (0)).trans kA.1) (And.intro ((Z2.out.1.cell f5 (0)).trans kA.2.1) (And.intro ((HNDD.out.still.cell f5 (1)).trans kA.2.2.1) (And.intro ((HCD.out.wb.1.cell f5 (0)).trans kA.2.2.2.1) (And.intro ((HTB.out.cell f5 (to + pl)).trans kA.2.2.2.2.1) ((Z3.out.1.cell f5 (0)).trans kA.2.2.2.2.2))))); have HB5 := Lib.hid hb5; clear hb5 f5; simp only []))
    have HF5 := Lib.hid (HCD.out.below HB5.out)
    have HS5 := Lib.hid (HSD.out.kept_below HCD.out HB5.out)
    cases bq with
    | true =>
      rw [if_pos ⟨hltt, rfl⟩] at hh
      obtain ⟨s1, h1, rfl⟩ := hh
      obtain ⟨f9, c9, he9, -, hcall⟩ := h1 (by omega) hlen w5 _ N c (HCD.out.fr HF5.out) HS5.out (HRD.out.fr HF5.out) (Wk.kv_fr HF5.out HKD.out)
      cases he9
      have HCALL := Lib.hid hcall
      have d3 := kB.2.2.2.2.2
      clear hcall h1 kA kB
      go_wp2_with fail
      refine HCALL.out.mono ?_
      rintro e w6 ⟨rfl, hx⟩
      have HX := Lib.hid hx
      clear hx
      simp only []
      go_wp2_with fail
      go_end0
      exact ⟨rfl, HF3.out.trans (HF4.out.trans (HFD.out.trans (HF5.out.trans HX.out.1))), HX.out.2⟩
    | false =>
      rw [if_neg (by simp)] at hh
      obtain rfl : s' = _ := hh
      clear kA kB
      go_wp2_with fail
      go_end0
      exact ⟨rfl, HF3.out.trans (HF4.out.trans (HFD.out.trans HF5.out)), HS5.out⟩
  · have hlti : ¬ ((pl : Int) < (G.nt : Int)) := by omega
    have hlti2 : decide ((pl : Int) < (G.nt : Int)) = false := decide_eq_false hlti
    rw [if_neg (by rw [HWF.out.len]; exact fun hx => hlt hx.1)] at hh
    obtain rfl : s' = _ := hh
    have z1 := Z1.out.2
    have t1 : w4.drew.cell? ⟨G.wb, 0, none⟩ = some (.slice G.At G.nt G.ct) := HCD.out.wb.2.cell 0
    simp only []
    go_wp2_with fail
    go_region
    go_wp2_with fail
    go_end0
    exact ⟨rfl, HF3.out.trans (HF4.out.trans HFD.out), HSD.out⟩
end Go.Proofs.Ytjeljlgjkjeloaa
