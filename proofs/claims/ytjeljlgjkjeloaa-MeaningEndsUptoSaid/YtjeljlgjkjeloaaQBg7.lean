/- meaning.walker.begin: a group. -/
import Derived.Test.YtjeljlgjkjeloaaQKtW
namespace Go.Proofs.Ytjeljlgjkjeloaa
open Go.RowKit

set_option maxRecDepth 100000 in
set_option maxHeartbeats 4000000 in
theorem beg_7 (G : Wk) (hwf : G.wf) (s s' : Mean.St) (n : Mean.Un) (pl : Nat) (nt : List Int) (K : Mean.Kt) (hkind : n.kind = 7) (hm : s.met (n.ad, pl, false) = 0) (h : G.chain (s.mark (n.ad, pl, false)) (Mean.first G.t n pl nt K) s') (hb : s.calls ≤ 4611686018427387904) : G.does s (.beg n pl nt K) s' := by
  intro hn hpl hlen w v N c hc hs hr hk
  obtain ⟨vf, vc, rfl, hgo⟩ := kv_func hk
  obtain ⟨f3, hs3, x1, x2, x3⟩ := boxes3 hc hs 53 59 77 (.pointer (some ⟨G.wb, 0, none⟩)) (.pointer (some ⟨n.ad, 0, none⟩)) (.func (Fn.func vf) #[] vc)
  have HF3 := Lib.hid f3
  have HC3 := Lib.hid (hc.fr f3)
  have HR3 := Lib.hid (hr.fr f3)
  have HK3 := Lib.hid (Wk.kv_fr f3 hk)
  have HON := Lib.hid (once_any G _ s (n.ad, pl, false) (hc.fr f3) hs3 ⟨n, hn, rfl⟩ hb)
  have X1 := Lib.hid x1
  have X2 := Lib.hid x2
  have X3 := Lib.hid x3
  have c1 := x1.2
  have c2 := x2.2
  have c3 := x3.2
  have HH := Lib.hid h
  have HWF := Lib.hid hwf
  clear f3 hs3 x1 x2 x3 hc hs hr hk h hwf
  generalize hw3 : ((w.alloc (.cells #[.pointer (some ⟨G.wb, 0, none⟩)] 53)).alloc (.cells #[.pointer (some ⟨n.ad, 0, none⟩)] 59)).alloc (.cells #[.func (Fn.func vf) #[] vc] 77) = w3 at *
  unfold kv at HON
  generalize hq1 : w.heap.size = q1 at *
  go_enter Try.func27, Try.ntmps27
  go_wp2_with fail
  refine HON.out.mono ?_
  rintro e w4 ⟨rfl, hf4, hs4⟩
  have HF4 := Lib.hid hf4
  have HS4 := Lib.hid hs4
  have Y1 := Lib.hid (X1.out.fr hf4)
  have Y2 := Lib.hid (X2.out.fr hf4)
  have Y3 := Lib.hid (X3.out.fr hf4)
  have HC4 := Lib.hid (HC3.out.fr hf4)
  have HR4 := Lib.hid (HR3.out.fr hf4)
  have HK4 := Lib.hid (Wk.kv_fr hf4 HK3.out)
  have m1 := Y1.out.2
  have m2 := Y2.out.2
  have m3 := Y3.out.2
  obtain ⟨ra, rc, sa, sc, hnd⟩ := HC4.out.nodes n hn
  have HND := Lib.hid hnd
  have n0 : w4.cell? ⟨n.ad, 0, none⟩ = some (.int .i64 n.kind) := hnd.blk.cell 0
  clear hf4 hs4 hnd c1 c2 c3 HON hw3
  rw [hkind] at n0
  have hmd : decide (s.met (n.ad, pl, false) = 0) = true := by simpa using hm
  rw [hmd]
  have hh := HH.out
  unfold Mean.first at hh
  simp only [hkind] at hh
  clear hmd HH
  simp only [reduceIte, Int.reduceNeg, Int.reduceEq] at hh
  have fd : G.fr w4 w4.drew := HC4.out.below (bdrewN (Below.refl _ _) 1)
  have HFD := Lib.hid fd
  have HCD := Lib.hid (HC4.out.fr fd)
  have HSD := Lib.hid (HS4.out.kept_below HC4.out (bdrewN (Below.refl _ _) 1))
  have HRD := Lib.hid (HR4.out.fr fd)
  have HKD := Lib.hid (Wk.kv_fr fd HK4.out)
  have Z1 := Lib.hid (Y1.out.fr fd)
  have Z2 := Lib.hid (Y2.out.fr fd)
  have Z3 := Lib.hid (Y3.out.fr fd)
  have HNDD := Lib.hid (HND.out.fr fd)
  clear fd
  obtain ⟨s0, l0, hsub⟩ : ∃ s0 l0, n.subs = s0 :: l0 := by
    cases e : n.subs with
    | nil => exact absurd e (HWF.out.one n hn (.inl hkind))
    | cons a l => exact ⟨a, l, rfl⟩
  have hs0 : s0 ∈ G.U := HWF.out.closed n hn s0 (by rw [hsub]; exact List.mem_cons_self)
  have hlen0 : n.subs.length = l0.length + 1 := by rw [hsub]; rfl
  have hrd := HNDD.out.subs
  rw [hlen0] at hrd
  obtain ⟨ab, ao, rfl, hab, hac⟩ := rd_pos hrd (by omega)
  have HAB := Lib.hid hab
  have c0 : w4.drew.cell? ⟨ab, ao + 0, none⟩ = some (.pointer (some ⟨s0.ad, 0, none⟩)) := hac 0 _ (by rw [hsub]; rfl)
  rw [Nat.add_zero] at c0
  have n5 : w4.drew.cell? ⟨n.ad, 5, none⟩ = some (.slice (some ⟨ab, ao, none⟩) (l0.length + 1) sc) := by have := HNDD.out.blk.cell 5; rw [hlen0] at this; exact this
  have hgt : (0 : Int) < ((l0.length : Int) + 1) := by omega
  rw [hsub] at hh
  simp only [] at hh
  clear hrd hab hac
  obtain ⟨s1, h1, rfl⟩ := hh
  obtain ⟨hi0, hi1⟩ := HWF.out.grp n hn hkind
  have hNL := HWF.out.nl.2
  obtain ⟨j, hj⟩ : ∃ j : Nat, j = (2 * n.ix).toNat := ⟨_, rfl⟩
  rw [← hj] at h1
  have HNT := Lib.hid (noted_any N G.NL c j nt (pl : Int) w4.drew HRD.out.2.2.2.1 (HRD.out.reads fun b hb => hb.1) hNL (by omega))
  have HBG := Lib.hid (h1 hs0 hpl (by rw [List.length_set]; exact hlen))
  have hw1 : IntKind.i64.wrap (2 * n.ix) = (j : Int) := by rw [IntKind.wrap_i64]; omega
  have kA : w4.drew.cell? ⟨q1, 0, none⟩ = some (.pointer (some ⟨G.wb, 0, none⟩)) ∧ w4.drew.cell? ⟨q1 + 1, 0, none⟩ = some (.pointer (some ⟨n.ad, 0, none⟩)) ∧ w4.drew.cell? ⟨n.ad, 5, none⟩ = some (.slice (some ⟨ab, ao, none⟩) (l0.length + 1) sc) ∧ w4.drew.cell? ⟨ab, ao, none⟩ = some (.pointer (some ⟨s0.ad, 0, none⟩)) ∧ w4.drew.cell? ⟨n.ad, 3, none⟩ = some (.int .i64 n.ix) := And.intro (Z1.out.2) (And.intro (Z2.out.2) (And.intro (n5) (And.intro (c0) (HNDD.out.blk.cell 3))))
  clear h1 n5 c0 hsub hj
  simp only []
  go_wp2_with fail
  go_region_held_law (fun u => u.cell? ⟨q1, 0, none⟩ = some (.pointer (some ⟨G.wb, 0, none⟩)) ∧ u.cell? ⟨q1 + 1, 0, none⟩ = some (.pointer (some ⟨n.ad, 0, none⟩)) ∧ u.cell? ⟨n.ad, 5, none⟩ = some (.slice (some ⟨ab, ao, none⟩) (l0.length + 1) sc) ∧ u.cell? ⟨ab, ao, none⟩ = some (.pointer (some ⟨s0.ad, 0, none⟩)) ∧ u.cell? ⟨n.ad, 3, none⟩ = some (.int .i64 n.ix)) (first | with_reducible exact kA | with_reducible exact kB | with_reducible exact kC)
    (first
      | (go_at_call 47; (with_reducible refine HNT.out.mono ?_); rintro e w5 ⟨N', c', rfl, hb5, hr5⟩; have f5 := HCD.out.below hb5; have HR5 := Lib.hid (hr5.mono fun b hb => HSD.out.still_new HCD.out hb5 hb.1 hb.2); have kB := And.intro ((Z1.out.1.cell f5 (0)).trans kA.1) (And.intro ((Z2.out.1.cell f5 (0)).trans kA.2.1) (And.intro ((HNDD.out.still.cell f5 (5)).trans kA.2.2.1) (And.intro ((HAB.out.cell f5 (ao)).trans kA.2.2.2.1) ((HNDD.out.still.cell f5 (3)).trans kA.2.2.2.2)))); have HCALL := Lib.hid (HBG.out w5 _ N' c' (HCD.out.fr f5) (HSD.out.kept_below HCD.out hb5) HR5.out (show G.kv w5 (.grp n.ix K) (.func (Fn.func 48) #[] #[.pointer (some ⟨q1 + 1 + 1, 0, none⟩), .pointer (some ⟨q1 + 1, 0, none⟩)]) from ⟨_, _, n, _, rfl, Z3.out.fr f5, Wk.kv_fr f5 HKD.out, Z2.out.fr f5, hn, rfl, hi0, hi1⟩)); have HF5 := Lib.hid f5; clear hb5 hr5 f5; simp only [])
      | (go_at_call 27; (with_reducible refine HCALL.out.mono ?_); rintro e w6 ⟨rfl, hx⟩; have HX := Lib.hid hx; have kC := And.intro (((Z1.out.1.fr HF5.out).cell hx.1 (0)).trans kB.1) (And.intro (((Z2.out.1.fr HF5.out).cell hx.1 (0)).trans kB.2.1) (And.intro (((HNDD.out.still.fr HF5.out).cell hx.1 (5)).trans kB.2.2.1) (And.intro (((HAB.out.fr HF5.out).cell hx.1 (ao)).trans kB.2.2.2.1) (((HNDD.out.still.fr HF5.out).cell hx.1 (3)).trans kB.2.2.2.2)))); clear hx; simp only []))
  all_goals (go_wp2_with fail)
  all_goals go_end0
  all_goals exact ⟨rfl, HF3.out.trans (HF4.out.trans (HFD.out.trans (HF5.out.trans HX.out.1))), HX.out.2⟩
end Go.Proofs.Ytjeljlgjkjeloaa
/- meaning.walker.begin: x?. -/
namespace Go.Proofs.Ytjeljlgjkjeloaa
open Go.RowKit

set_option maxRecDepth 100000 in
set_option maxHeartbeats 4000000 in
theorem beg_q (G : Wk) (hwf : G.wf) (s s' : Mean.St) (n : Mean.Un) (pl : Nat) (nt : List Int) (K : Mean.Kt) (hkind : n.kind = -1) (hm : s.met (n.ad, pl, false) = 0) (h : G.chain (s.mark (n.ad, pl, false)) (Mean.first G.t n pl nt K) s') (hb : s.calls ≤ 4611686018427387904) : G.does s (.beg n pl nt K) s' := by
  intro hn hpl hlen w v N c hc hs hr hk
  obtain ⟨vf, vc, rfl, hgo⟩ := kv_func hk
  obtain ⟨f3, hs3, x1, x2, x3⟩ := boxes3 hc hs 53 59 77 (.pointer (some ⟨G.wb, 0, none⟩)) (.pointer (some ⟨n.ad, 0, none⟩)) (.func (Fn.func vf) #[] vc)
  have HF3 := Lib.hid f3
  have HC3 := Lib.hid (hc.fr f3)
  have HR3 := Lib.hid (hr.fr f3)
  have HK3 := Lib.hid (Wk.kv_fr f3 hk)
  have HON := Lib.hid (once_any G _ s (n.ad, pl, false) (hc.fr f3) hs3 ⟨n, hn, rfl⟩ hb)
  have X1 := Lib.hid x1
  have X2 := Lib.hid x2
  have X3 := Lib.hid x3
  have c1 := x1.2
  have c2 := x2.2
  have c3 := x3.2
  have HH := Lib.hid h
  have HWF := Lib.hid hwf
  clear f3 hs3 x1 x2 x3 hc hs hr hk h hwf
  generalize hw3 : ((w.alloc (.cells #[.pointer (some ⟨G.wb, 0, none⟩)] 53)).alloc (.cells #[.pointer (some ⟨n.ad, 0, none⟩)] 59)).alloc (.cells #[.func (Fn.func vf) #[] vc] 77) = w3 at *
  unfold kv at HON
  generalize hq1 : w.heap.size = q1 at *
  go_enter Try.func27, Try.ntmps27
  go_wp2_with fail
  refine HON.out.mono ?_
  rintro e w4 ⟨rfl, hf4, hs4⟩
  have HF4 := Lib.hid hf4
  have HS4 := Lib.hid hs4
  have Y1 := Lib.hid (X1.out.fr hf4)
  have Y2 := Lib.hid (X2.out.fr hf4)
  have Y3 := Lib.hid (X3.out.fr hf4)
  have HC4 := Lib.hid (HC3.out.fr hf4)
  have HR4 := Lib.hid (HR3.out.fr hf4)
  have HK4 := Lib.hid (Wk.kv_fr hf4 HK3.out)
  have m1 := Y1.out.2
  have m2 := Y2.out.2
  have m3 := Y3.out.2
  obtain ⟨ra, rc, sa, sc, hnd⟩ := HC4.out.nodes n hn
  have HND := Lib.hid hnd
  have n0 : w4.cell? ⟨n.ad, 0, none⟩ = some (.int .i64 n.kind) := hnd.blk.cell 0
  clear hf4 hs4 hnd c1 c2 c3 HON hw3
  rw [hkind] at n0
  have hmd : decide (s.met (n.ad, pl, false) = 0) = true := by simpa using hm
  rw [hmd]
  have hh := HH.out
  unfold Mean.first at hh
  simp only [hkind] at hh
  clear hmd HH
  simp only [reduceIte, Int.reduceNeg, Int.reduceEq] at hh
  have HCH := Lib.hid (choose_any G _ s' n pl nt K K hh hn (HWF.out.one n hn (.inr (.inl hkind))) HWF.out.closed hpl hlen w4 _ _ N c HC4.out HS4.out HR4.out HK4.out HK4.out)
  clear hh
  simp only []
  go_wp2_with fail
  refine HCH.out.mono ?_
  rintro e w5 ⟨rfl, hx⟩
  have HX := Lib.hid hx
  clear hx
  simp only []
  go_wp2_with fail
  go_end0
  exact ⟨rfl, HF3.out.trans (HF4.out.trans HX.out.1), HX.out.2⟩
end Go.Proofs.Ytjeljlgjkjeloaa
/- meaning.walker.begin: x*. -/
namespace Go.Proofs.Ytjeljlgjkjeloaa
open Go.RowKit

set_option maxRecDepth 100000 in
set_option maxHeartbeats 4000000 in
theorem beg_s (G : Wk) (hwf : G.wf) (s s' : Mean.St) (n : Mean.Un) (pl : Nat) (nt : List Int) (K : Mean.Kt) (hkind : n.kind = -2) (hm : s.met (n.ad, pl, false) = 0) (h : G.chain (s.mark (n.ad, pl, false)) (Mean.first G.t n pl nt K) s') (hb : s.calls ≤ 4611686018427387904) : G.does s (.beg n pl nt K) s' := by
  intro hn hpl hlen w v N c hc hs hr hk
  obtain ⟨vf, vc, rfl, hgo⟩ := kv_func hk
  obtain ⟨f3, hs3, x1, x2, x3⟩ := boxes3 hc hs 53 59 77 (.pointer (some ⟨G.wb, 0, none⟩)) (.pointer (some ⟨n.ad, 0, none⟩)) (.func (Fn.func vf) #[] vc)
  have HF3 := Lib.hid f3
  have HC3 := Lib.hid (hc.fr f3)
  have HR3 := Lib.hid (hr.fr f3)
  have HK3 := Lib.hid (Wk.kv_fr f3 hk)
  have HON := Lib.hid (once_any G _ s (n.ad, pl, false) (hc.fr f3) hs3 ⟨n, hn, rfl⟩ hb)
  have X1 := Lib.hid x1
  have X2 := Lib.hid x2
  have X3 := Lib.hid x3
  have c1 := x1.2
  have c2 := x2.2
  have c3 := x3.2
  have HH := Lib.hid h
  have HWF := Lib.hid hwf
  clear f3 hs3 x1 x2 x3 hc hs hr hk h hwf
  generalize hw3 : ((w.alloc (.cells #[.pointer (some ⟨G.wb, 0, none⟩)] 53)).alloc (.cells #[.pointer (some ⟨n.ad, 0, none⟩)] 59)).alloc (.cells #[.func (Fn.func vf) #[] vc] 77) = w3 at *
  unfold kv at HON
  generalize hq1 : w.heap.size = q1 at *
  go_enter Try.func27, Try.ntmps27
  go_wp2_with fail
  refine HON.out.mono ?_
  rintro e w4 ⟨rfl, hf4, hs4⟩
  have HF4 := Lib.hid hf4
  have HS4 := Lib.hid hs4
  have Y1 := Lib.hid (X1.out.fr hf4)
  have Y2 := Lib.hid (X2.out.fr hf4)
  have Y3 := Lib.hid (X3.out.fr hf4)
  have HC4 := Lib.hid (HC3.out.fr hf4)
  have HR4 := Lib.hid (HR3.out.fr hf4)
  have HK4 := Lib.hid (Wk.kv_fr hf4 HK3.out)
  have m1 := Y1.out.2
  have m2 := Y2.out.2
  have m3 := Y3.out.2
  obtain ⟨ra, rc, sa, sc, hnd⟩ := HC4.out.nodes n hn
  have HND := Lib.hid hnd
  have n0 : w4.cell? ⟨n.ad, 0, none⟩ = some (.int .i64 n.kind) := hnd.blk.cell 0
  clear hf4 hs4 hnd c1 c2 c3 HON hw3
  rw [hkind] at n0
  have hmd : decide (s.met (n.ad, pl, false) = 0) = true := by simpa using hm
  rw [hmd]
  have hh := HH.out
  unfold Mean.first at hh
  simp only [hkind] at hh
  clear hmd HH
  simp only [reduceIte, Int.reduceNeg, Int.reduceEq] at hh
  obtain ⟨s1, h1, rfl⟩ := hh
  have HCH := Lib.hid (h1 hn hpl hlen w4 _ N c HC4.out HS4.out HR4.out HK4.out)
  clear h1
  simp only []
  go_wp2_with fail
  refine HCH.out.mono ?_
  rintro e w5 ⟨rfl, hx⟩
  have HX := Lib.hid hx
  clear hx
  simp only []
  go_wp2_with fail
  go_end0
  exact ⟨rfl, HF3.out.trans (HF4.out.trans HX.out.1), HX.out.2⟩
end Go.Proofs.Ytjeljlgjkjeloaa
/- meaning.walker.begin: x+. -/
namespace Go.Proofs.Ytjeljlgjkjeloaa
open Go.RowKit

set_option maxRecDepth 100000 in
set_option maxHeartbeats 4000000 in
theorem beg_p (G : Wk) (hwf : G.wf) (s s' : Mean.St) (n : Mean.Un) (pl : Nat) (nt : List Int) (K : Mean.Kt) (hkind : n.kind = -3) (hm : s.met (n.ad, pl, false) = 0) (h : G.chain (s.mark (n.ad, pl, false)) (Mean.first G.t n pl nt K) s') (hb : s.calls ≤ 4611686018427387904) : G.does s (.beg n pl nt K) s' := by
  intro hn hpl hlen w v N c hc hs hr hk
  obtain ⟨vf, vc, rfl, hgo⟩ := kv_func hk
  obtain ⟨f3, hs3, x1, x2, x3⟩ := boxes3 hc hs 53 59 77 (.pointer (some ⟨G.wb, 0, none⟩)) (.pointer (some ⟨n.ad, 0, none⟩)) (.func (Fn.func vf) #[] vc)
  have HF3 := Lib.hid f3
  have HC3 := Lib.hid (hc.fr f3)
  have HR3 := Lib.hid (hr.fr f3)
  have HK3 := Lib.hid (Wk.kv_fr f3 hk)
  have HON := Lib.hid (once_any G _ s (n.ad, pl, false) (hc.fr f3) hs3 ⟨n, hn, rfl⟩ hb)
  have X1 := Lib.hid x1
  have X2 := Lib.hid x2
  have X3 := Lib.hid x3
  have c1 := x1.2
  have c2 := x2.2
  have c3 := x3.2
  have HH := Lib.hid h
  have HWF := Lib.hid hwf
  clear f3 hs3 x1 x2 x3 hc hs hr hk h hwf
  generalize hw3 : ((w.alloc (.cells #[.pointer (some ⟨G.wb, 0, none⟩)] 53)).alloc (.cells #[.pointer (some ⟨n.ad, 0, none⟩)] 59)).alloc (.cells #[.func (Fn.func vf) #[] vc] 77) = w3 at *
  unfold kv at HON
  generalize hq1 : w.heap.size = q1 at *
  go_enter Try.func27, Try.ntmps27
  go_wp2_with fail
  refine HON.out.mono ?_
  rintro e w4 ⟨rfl, hf4, hs4⟩
  have HF4 := Lib.hid hf4
  have HS4 := Lib.hid hs4
  have Y1 := Lib.hid (X1.out.fr hf4)
  have Y2 := Lib.hid (X2.out.fr hf4)
  have Y3 := Lib.hid (X3.out.fr hf4)
  have HC4 := Lib.hid (HC3.out.fr hf4)
  have HR4 := Lib.hid (HR3.out.fr hf4)
  have HK4 := Lib.hid (Wk.kv_fr hf4 HK3.out)
  have m1 := Y1.out.2
  have m2 := Y2.out.2
  have m3 := Y3.out.2
  obtain ⟨ra, rc, sa, sc, hnd⟩ := HC4.out.nodes n hn
  have HND := Lib.hid hnd
  have n0 : w4.cell? ⟨n.ad, 0, none⟩ = some (.int .i64 n.kind) := hnd.blk.cell 0
  clear hf4 hs4 hnd c1 c2 c3 HON hw3
  rw [hkind] at n0
  have hmd : decide (s.met (n.ad, pl, false) = 0) = true := by simpa using hm
  rw [hmd]
  have hh := HH.out
  unfold Mean.first at hh
  simp only [hkind] at hh
  clear hmd HH
  simp only [reduceIte, Int.reduceNeg, Int.reduceEq] at hh
  have fd : G.fr w4 w4.drew := HC4.out.below (bdrewN (Below.refl _ _) 1)
  have HFD := Lib.hid fd
  have HCD := Lib.hid (HC4.out.fr fd)
  have HSD := Lib.hid (HS4.out.kept_below HC4.out (bdrewN (Below.refl _ _) 1))
  have HRD := Lib.hid (HR4.out.fr fd)
  have HKD := Lib.hid (Wk.kv_fr fd HK4.out)
  have Z1 := Lib.hid (Y1.out.fr fd)
  have Z2 := Lib.hid (Y2.out.fr fd)
  have Z3 := Lib.hid (Y3.out.fr fd)
  have HNDD := Lib.hid (HND.out.fr fd)
  clear fd
  obtain ⟨s0, l0, hsub⟩ : ∃ s0 l0, n.subs = s0 :: l0 := by
    cases e : n.subs with
    | nil => exact absurd e (HWF.out.one n hn (.inr (.inr (.inr hkind))))
    | cons a l => exact ⟨a, l, rfl⟩
  have hs0 : s0 ∈ G.U := HWF.out.closed n hn s0 (by rw [hsub]; exact List.mem_cons_self)
  have hlen0 : n.subs.length = l0.length + 1 := by rw [hsub]; rfl
  have hrd := HNDD.out.subs
  rw [hlen0] at hrd
  obtain ⟨ab, ao, rfl, hab, hac⟩ := rd_pos hrd (by omega)
  have HAB := Lib.hid hab
  have c0 : w4.drew.cell? ⟨ab, ao + 0, none⟩ = some (.pointer (some ⟨s0.ad, 0, none⟩)) := hac 0 _ (by rw [hsub]; rfl)
  rw [Nat.add_zero] at c0
  have n5 : w4.drew.cell? ⟨n.ad, 5, none⟩ = some (.slice (some ⟨ab, ao, none⟩) (l0.length + 1) sc) := by have := HNDD.out.blk.cell 5; rw [hlen0] at this; exact this
  have hgt : (0 : Int) < ((l0.length : Int) + 1) := by omega
  rw [hsub] at hh
  simp only [] at hh
  clear hrd hab hac
  obtain ⟨s1, h1, rfl⟩ := hh
  have hkv : G.kv w4.drew (.dec n K) (.func (Fn.func 51) #[] #[.pointer (some ⟨q1, 0, none⟩), .pointer (some ⟨q1 + 1, 0, none⟩), .pointer (some ⟨q1 + 1 + 1, 0, none⟩)]) :=
    ⟨_, _, _, _, _, .inl rfl, rfl, Z1.out, Z2.out, hn, Z3.out, HKD.out⟩
  have HBG := Lib.hid (h1 hs0 hpl hlen w4.drew _ N c HCD.out HSD.out HRD.out hkv)
  have kA : w4.drew.cell? ⟨q1, 0, none⟩ = some (.pointer (some ⟨G.wb, 0, none⟩)) ∧ w4.drew.cell? ⟨q1 + 1, 0, none⟩ = some (.pointer (some ⟨n.ad, 0, none⟩)) ∧ w4.drew.cell? ⟨n.ad, 5, none⟩ = some (.slice (some ⟨ab, ao, none⟩) (l0.length + 1) sc) ∧ w4.drew.cell? ⟨ab, ao, none⟩ = some (.pointer (some ⟨s0.ad, 0, none⟩)) := And.intro (Z1.out.2) (And.intro (Z2.out.2) (And.intro (n5) (c0)))
  clear h1 hkv n5 c0 hsub
  simp only []
  go_wp2_with fail
  go_region_held_law (fun u => u.cell? ⟨q1, 0, none⟩ = some (.pointer (some ⟨G.wb, 0, none⟩)) ∧ u.cell? ⟨q1 + 1, 0, none⟩ = some (.pointer (some ⟨n.ad, 0, none⟩)) ∧ u.cell? ⟨n.ad, 5, none⟩ = some (.slice (some ⟨ab, ao, none⟩) (l0.length + 1) sc) ∧ u.cell? ⟨ab, ao, none⟩ = some (.pointer (some ⟨s0.ad, 0, none⟩))) (first | with_reducible exact kA | with_reducible exact kB)
    (first | (go_at_call 27; (with_reducible refine HBG.out.mono ?_); rintro e w5 ⟨rfl, hx⟩; have HX := Lib.hid hx; have kB := And.intro ((Z1.out.1.cell hx.1 (0)).trans kA.1) (And.intro ((Z2.out.1.cell hx.1 (0)).trans kA.2.1) (And.intro ((HNDD.out.still.cell hx.1 (5)).trans kA.2.2.1) ((HAB.out.cell hx.1 (ao)).trans kA.2.2.2))); clear hx; simp only []))
  go_wp2_with fail
  go_end0
  exact ⟨rfl, HF3.out.trans (HF4.out.trans (HFD.out.trans HX.out.1)), HX.out.2⟩
end Go.Proofs.Ytjeljlgjkjeloaa
