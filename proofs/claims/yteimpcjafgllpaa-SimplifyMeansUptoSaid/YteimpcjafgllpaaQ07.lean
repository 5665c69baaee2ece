/- meaning.walker.begin: a class. -/
import Derived.Test.YteimpcjafgllpaaQ05
import Derived.Test.YteimpcjafgllpaaQ06
namespace Go.Proofs.Yteimpcjafgllpaa
open Go.RowKit
set_option maxRecDepth 100000 in
set_option maxHeartbeats 4000000 in
theorem beg_2 (G : Wk) (hwf : G.wf) (s s' : Mean.St) (n : Mean.Un) (pl : Nat) (nt : List Int) (K : Mean.Kt) (hkind : n.kind = 2) (hm : s.met (n.ad, pl, false) = 0) (h : G.chain (s.mark (n.ad, pl, false)) (Mean.first G.t n pl nt K) s') (hb : s.calls ≤ 4611686018427387904) : G.does s (.beg n pl nt K) s' := by
  intro hn hpl hlen w v N c hc hs hr hk
  obtain ⟨vf, vc, rfl, hgo⟩ := kv_func hk
  obtain ⟨f3, hs3, x1, x2, x3⟩ := boxes3 hc hs 47 53 82 (.pointer (some ⟨G.wb, 0, none⟩)) (.pointer (some ⟨n.ad, 0, none⟩)) (.func (Fn.func vf) #[] vc)
  have HF3 := Lib.hid f3
  have HC3 := Lib.hid (hc.fr f3)
  have HR3 := Lib.hid (hr.fr f3)
  have HK3 := Lib.hid (Wk.kv_fr f3 hk)
  have HON := Lib.hid (once_any G _ s (n.ad, pl, false) (hc.fr f3) hs3 ⟨n, hn, rfl⟩ hb)
  have X1 := Lib.hid x1
  have X2 := Lib.hid x2
  have X3 := Lib.hid x3
  have c1 := x1.2
  have c2 := x2.2
  have c3 := x3.2
  have HH := Lib.hid h
  have HWF := Lib.hid hwf
  clear f3 hs3 x1 x2 x3 hc hs hr hk h hwf
  generalize hw3 : ((w.alloc (.cells #[.pointer (some ⟨G.wb, 0, none⟩)] 47)).alloc (.cells #[.pointer (some ⟨n.ad, 0, none⟩)] 53)).alloc (.cells #[.func (Fn.func vf) #[] vc] 82) = w3 at *
  unfold kv at HON
  generalize hq1 : w.heap.size = q1 at *
  go_enter Try.func25, Try.ntmps25
  go_wp2_with fail
  refine HON.out.mono ?_
  rintro e w4 ⟨rfl, hf4, hs4⟩
  have HF4 := Lib.hid hf4
  have HS4 := Lib.hid hs4
  have Y1 := Lib.hid (X1.out.fr hf4)
  have Y2 := Lib.hid (X2.out.fr hf4)
  have Y3 := Lib.hid (X3.out.fr hf4)
  have HC4 := Lib.hid (HC3.out.fr hf4)
  have HR4 := Lib.hid (HR3.out.fr hf4)
  have HK4 := Lib.hid (Wk.kv_fr hf4 HK3.out)
  have m1 := Y1.out.2
  have m2 := Y2.out.2
  have m3 := Y3.out.2
  obtain ⟨ra, rc, sa, sc, hnd⟩ := HC4.out.nodes n hn
  have HND := Lib.hid hnd
  have n0 : w4.cell? ⟨n.ad, 0, none⟩ = some (.int .i64 n.kind) := hnd.blk.cell 0
  clear hf4 hs4 hnd c1 c2 c3 HON hw3
  rw [hkind] at n0
  have hmd : decide (s.met (n.ad, pl, false) = 0) = true := by simpa using hm
  rw [hmd]
  have hh := HH.out
  unfold Mean.first at hh
  simp only [hkind] at hh
  clear hmd HH
  simp only [reduceIte, Int.reduceNeg, Int.reduceEq] at hh
  have fd : G.fr w4 w4.drew := HC4.out.below (bdrewN (Below.refl _ _) 1)
  have HFD := Lib.hid fd
  have HCD := Lib.hid (HC4.out.fr fd)
  have HSD := Lib.hid (HS4.out.kept_below HC4.out (bdrewN (Below.refl _ _) 1))
  have HRD := Lib.hid (HR4.out.fr fd)
  have HKD := Lib.hid (Wk.kv_fr fd HK4.out)
  have Z1 := Lib.hid (Y1.out.fr fd)
  have Z2 := Lib.hid (Y2.out.fr fd)
  have Z3 := Lib.hid (Y3.out.fr fd)
  have HNDD := Lib.hid (HND.out.fr fd)
  clear fd
  by_cases hlt : pl < G.nt
  · have hlti : (pl : Int) < (G.nt : Int) := by omega
    have hlti2 : decide ((pl : Int) < (G.nt : Int)) = true := decide_eq_true hlti
    have hltt : pl < G.t.length := by rw [HWF.out.len]; exact hlt
    obtain ⟨tb, to, hAt, htb, htc⟩ := rd_pos HCD.out.text (by omega)
    have HTB := Lib.hid htb
    have t0 : w4.drew.cell? ⟨tb, to + pl, none⟩ = some (.int .i64 (G.t.getD pl 0)) := htc pl _ (by rw [List.getElem?_map, List.getElem?_eq_getElem hltt, List.getD_eq_getElem?_getD, List.getElem?_eq_getElem hltt]; rfl)
    have t1 : w4.drew.cell? ⟨G.wb, 0, none⟩ = some (.slice (some ⟨tb, to, none⟩) G.nt G.ct) := by rw [← hAt]; exact HCD.out.wb.2.cell 0
    have HHS := Lib.hid (has_any ra n.rng.length rc (G.t.getD pl 0) n.rng w4.drew (HNDD.out.rng.reads fun b hb => hb.1))
    rw [HWF.out.cls n hn hkind, Bool.true_and] at HHS
    obtain ⟨bq, hbq⟩ : ∃ b, b = memB n.rng (G.t.getD pl 0) := ⟨_, rfl⟩
    rw [← hbq] at HHS hh
    clear hbq
    generalize G.t.getD pl 0 = rv at *
    have hshort := HWF.out.short
    have hw1 : IntKind.i64.wrap ((pl : Int) + 1) = ((pl + 1 : Nat) : Int) := by rw [IntKind.wrap_i64]; omega
    have kA : w4.drew.cell? ⟨q1, 0, none⟩ = some (.pointer (some ⟨G.wb, 0, none⟩)) ∧ w4.drew.cell? ⟨q1 + 1, 0, none⟩ = some (.pointer (some ⟨n.ad, 0, none⟩)) ∧ w4.drew.cell? ⟨n.ad, 1, none⟩ = some (.slice ra n.rng.length rc) ∧ w4.drew.cell? ⟨G.wb, 0, none⟩ = some (.slice (some ⟨tb, to, none⟩) G.nt G.ct) ∧ w4.drew.cell? ⟨tb, to + pl, none⟩ = some (.int .i64 rv) ∧ w4.drew.cell? ⟨q1 + 1 + 1, 0, none⟩ = some (.func (Fn.func vf) #[] vc) := And.intro (Z1.out.2) (And.intro (Z2.out.2) (And.intro (HNDD.out.blk.cell 1) (And.intro (t1) (And.intro (t0) (Z3.out.2)))))
    clear htb htc t0 t1 hAt
    simp only []
    go_wp2_with fail
    go_region_held_law (fun u => u.cell? ⟨q1, 0, none⟩ = some (.pointer (some ⟨G.wb, 0, none⟩)) ∧ u.cell? ⟨q1 + 1, 0, none⟩ = some (.pointer (some ⟨n.ad, 0, none⟩)) ∧ u.cell? ⟨n.ad, 1, none⟩ = some (.slice ra n.rng.length rc) ∧ u.cell? ⟨G.wb, 0, none⟩ = some (.slice (some ⟨tb, to, none⟩) G.nt G.ct) ∧ u.cell? ⟨tb, to + pl, none⟩ = some (.int .i64 rv) ∧ u.cell? ⟨q1 + 1 + 1, 0, none⟩ = some (.func (Fn.func vf) #[] vc)) (first | with_reducible exact kA | with_reducible exact kB)
      (first | (go_at_call 47; (with_reducible refine HHS.out.mono ?_); rintro e w5 ⟨rfl, hb5⟩; have f5 := HCD.out.below hb5; have kB := And.intro ((Z1.out.1.cell f5 (0)).trans kA.1) (And.intro ((Z2.out.1.cell f5 (0)).trans kA.2.1) (And.intro ((HNDD.out.still.cell f5 (1)).trans kA.2.2.1) (And.intro ((HCD.out.wb.1.cell f5 (0)).trans kA.2.2.2.1) (And.intro ((HTB.out.cell f5 (to + pl)).trans kA.2.2.2.2.1) ((Z3.out.1.cell f5 (0)).trans kA.2.2.2.2.2))))); have HB5 := Lib.hid hb5; clear hb5 f5; simp only []))
    have HF5 := Lib.hid (HCD.out.below HB5.out)
    have HS5 := Lib.hid (HSD.out.kept_below HCD.out HB5.out)
    cases bq with
    | true =>
      rw [if_pos ⟨hltt, rfl⟩] at hh
      obtain ⟨s1, h1, rfl⟩ := hh
      obtain ⟨f9, c9, he9, -, hcall⟩ := h1 (by omega) hlen w5 _ N c (HCD.out.fr HF5.out) HS5.out (HRD.out.fr HF5.out) (Wk.kv_fr HF5.out HKD.out)
      cases he9
      have HCALL := Lib.hid hcall
      have d3 := kB.2.2.2.2.2
      clear hcall h1 kA kB
      go_wp2_with fail
      refine HCALL.out.mono ?_
      rintro e w6 ⟨rfl, hx⟩
      have HX := Lib.hid hx
      clear hx
      simp only []
      go_wp2_with fail
      go_end0
      exact ⟨rfl, HF3.out.trans (HF4.out.trans (HFD.out.trans (HF5.out.trans HX.out.1))), HX.out.2⟩
    | false =>
      rw [if_neg (by simp)] at hh
      obtain rfl : s' = _ := hh
      clear kA kB
      go_wp2_with fail
      go_end0
      exact ⟨rfl, HF3.out.trans (HF4.out.trans (HFD.out.trans HF5.out)), HS5.out⟩
  · have hlti : ¬ ((pl : Int) < (G.nt : Int)) := by omega
    have hlti2 : decide ((pl : Int) < (G.nt : Int)) = false := decide_eq_false hlti
    rw [if_neg (by rw [HWF.out.len]; exact fun hx => hlt hx.1)] at hh
    obtain rfl : s' = _ := hh
    have z1 := Z1.out.2
    have t1 : w4.drew.cell? ⟨G.wb, 0, none⟩ = some (.slice G.At G.nt G.ct) := HCD.out.wb.2.cell 0
    simp only []
    go_wp2_with fail
    go_region
    go_wp2_with fail
    go_end0
    exact ⟨rfl, HF3.out.trans (HF4.out.trans HFD.out), HSD.out⟩
end Go.Proofs.Yteimpcjafgllpaa
namespace Go.Proofs.Yteimpcjafgllpaa
open Go.RowKit
set_option maxRecDepth 100000 in
set_option maxHeartbeats 4000000 in
theorem beg_7 (G : Wk) (hwf : G.wf) (s s' : Mean.St) (n : Mean.Un) (pl : Nat) (nt : List Int) (K : Mean.Kt) (hkind : n.kind = 7) (hm : s.met (n.ad, pl, false) = 0) (h : G.chain (s.mark (n.ad, pl, false)) (Mean.first G.t n pl nt K) s') (hb : s.calls ≤ 4611686018427387904) : G.does s (.beg n pl nt K) s' := by
  intro hn hpl hlen w v N c hc hs hr hk
  obtain ⟨vf, vc, rfl, hgo⟩ := kv_func hk
  obtain ⟨f3, hs3, x1, x2, x3⟩ := boxes3 hc hs 47 53 82 (.pointer (some ⟨G.wb, 0, none⟩)) (.pointer (some ⟨n.ad, 0, none⟩)) (.func (Fn.func vf) #[] vc)
  have HF3 := Lib.hid f3
  have HC3 := Lib.hid (hc.fr f3)
  have HR3 := Lib.hid (hr.fr f3)
  have HK3 := Lib.hid (Wk.kv_fr f3 hk)
  have HON := Lib.hid (once_any G _ s (n.ad, pl, false) (hc.fr f3) hs3 ⟨n, hn, rfl⟩ hb)
  have X1 := Lib.hid x1
  have X2 := Lib.hid x2
  have X3 := Lib.hid x3
  have c1 := x1.2
  have c2 := x2.2
  have c3 := x3.2
  have HH := Lib.hid h
  have HWF := Lib.hid hwf
  clear f3 hs3 x1 x2 x3 hc hs hr hk h hwf
  generalize hw3 : ((w.alloc (.cells #[.pointer (some ⟨G.wb, 0, none⟩)] 47)).alloc (.cells #[.pointer (some ⟨n.ad, 0, none⟩)] 53)).alloc (.cells #[.func (Fn.func vf) #[] vc] 82) = w3 at *
  unfold kv at HON
  generalize hq1 : w.heap.size = q1 at *
  go_enter Try.func25, Try.ntmps25
  go_wp2_with fail
  refine HON.out.mono ?_
  rintro e w4 ⟨rfl, hf4, hs4⟩
  have HF4 := Lib.hid hf4
  have HS4 := Lib.hid hs4
  have Y1 := Lib.hid (X1.out.fr hf4)
  have Y2 := Lib.hid (X2.out.fr hf4)
  have Y3 := Lib.hid (X3.out.fr hf4)
  have HC4 := Lib.hid (HC3.out.fr hf4)
  have HR4 := Lib.hid (HR3.out.fr hf4)
  have HK4 := Lib.hid (Wk.kv_fr hf4 HK3.out)
  have m1 := Y1.out.2
  have m2 := Y2.out.2
  have m3 := Y3.out.2
  obtain ⟨ra, rc, sa, sc, hnd⟩ := HC4.out.nodes n hn
  have HND := Lib.hid hnd
  have n0 : w4.cell? ⟨n.ad, 0, none⟩ = some (.int .i64 n.kind) := hnd.blk.cell 0
  clear hf4 hs4 hnd c1 c2 c3 HON hw3
  rw [hkind] at n0
  have hmd : decide (s.met (n.ad, pl, false) = 0) = true := by simpa using hm
  rw [hmd]
  have hh := HH.out
  unfold Mean.first at hh
  simp only [hkind] at hh
  clear hmd HH
  simp only [reduceIte, Int.reduceNeg, Int.reduceEq] at hh
  have fd : G.fr w4 w4.drew := HC4.out.below (bdrewN (Below.refl _ _) 1)
  have HFD := Lib.hid fd
  have HCD := Lib.hid (HC4.out.fr fd)
  have HSD := Lib.hid (HS4.out.kept_below HC4.out (bdrewN (Below.refl _ _) 1))
  have HRD := Lib.hid (HR4.out.fr fd)
  have HKD := Lib.hid (Wk.kv_fr fd HK4.out)
  have Z1 := Lib.hid (Y1.out.fr fd)
  have Z2 := Lib.hid (Y2.out.fr fd)
  have Z3 := Lib.hid (Y3.out.fr fd)
  have HNDD := Lib.hid (HND.out.fr fd)
  clear fd
  obtain ⟨s0, l0, hsub⟩ : ∃ s0 l0, n.subs = s0 :: l0 := by
    cases e : n.subs with
    | nil => exact absurd e (HWF.out.one n hn (.inl hkind))
    | cons a l => exact ⟨a, l, rfl⟩
  have hs0 : s0 ∈ G.U := HWF.out.closed n hn s0 (by rw [hsub]; exact List.mem_cons_self)
  have hlen0 : n.subs.length = l0.length + 1 := by rw [hsub]; rfl
  have hrd := HNDD.out.subs
  rw [hlen0] at hrd
  obtain ⟨ab, ao, rfl, hab, hac⟩ := rd_pos hrd (by omega)
  have HAB := Lib.hid hab
  have c0 : w4.drew.cell? ⟨ab, ao + 0, none⟩ = some (.pointer (some ⟨s0.ad, 0, none⟩)) := hac 0 _ (by rw [hsub]; rfl)
  rw [Nat.add_zero] at c0
  have n5 : w4.drew.cell? ⟨n.ad, 5, none⟩ = some (.slice (some ⟨ab, ao, none⟩) (l0.length + 1) sc) := by have := HNDD.out.blk.cell 5; rw [hlen0] at this; exact this
  have hgt : (0 : Int) < ((l0.length : Int) + 1) := by omega
  rw [hsub] at hh
  simp only [] at hh
  clear hrd hab hac
  obtain ⟨s1, h1, rfl⟩ := hh
  obtain ⟨hi0, hi1⟩ := HWF.out.grp n hn hkind
  have hNL := HWF.out.nl.2
  obtain ⟨j, hj⟩ : ∃ j : Nat, j = (2 * n.ix).toNat := ⟨_, rfl⟩
  rw [← hj] at h1
  have HNT := Lib.hid (noted_any N G.NL c j nt (pl : Int) w4.drew HRD.out.2.2.2.1 (HRD.out.reads fun b hb => hb.1) hNL (by omega))
  have HBG := Lib.hid (h1 hs0 hpl (by rw [List.length_set]; exact hlen))
  have hw1 : IntKind.i64.wrap (2 * n.ix) = (j : Int) := by rw [IntKind.wrap_i64]; omega
  have kA : w4.drew.cell? ⟨q1, 0, none⟩ = some (.pointer (some ⟨G.wb, 0, none⟩)) ∧ w4.drew.cell? ⟨q1 + 1, 0, none⟩ = some (.pointer (some ⟨n.ad, 0, none⟩)) ∧ w4.drew.cell? ⟨n.ad, 5, none⟩ = some (.slice (some ⟨ab, ao, none⟩) (l0.length + 1) sc) ∧ w4.drew.cell? ⟨ab, ao, none⟩ = some (.pointer (some ⟨s0.ad, 0, none⟩)) ∧ w4.drew.cell? ⟨n.ad, 3, none⟩ = some (.int .i64 n.ix) := And.intro (Z1.out.2) (And.intro (Z2.out.2) (And.intro (n5) (And.intro (c0) (HNDD.out.blk.cell 3))))
  clear h1 n5 c0 hsub hj
  simp only []
  go_wp2_with fail
  go_region_held_law (fun u => u.cell? ⟨q1, 0, none⟩ = some (.pointer (some ⟨G.wb, 0, none⟩)) ∧ u.cell? ⟨q1 + 1, 0, none⟩ = some (.pointer (some ⟨n.ad, 0, none⟩)) ∧ u.cell? ⟨n.ad, 5, none⟩ = some (.slice (some ⟨ab, ao, none⟩) (l0.length + 1) sc) ∧ u.cell? ⟨ab, ao, none⟩ = some (.pointer (some ⟨s0.ad, 0, none⟩)) ∧ u.cell? ⟨n.ad, 3, none⟩ = some (.int .i64 n.ix)) (first | with_reducible exact kA | with_reducible exact kB | with_reducible exact kC)
    (first
      | (go_at_call 51; (with_reducible refine HNT.out.mono ?_); rintro e w5 ⟨N', c', rfl, hb5, hr5⟩; have f5 := HCD.out.below hb5; have HR5 := Lib.hid (hr5.mono fun b hb => HSD.out.still_new HCD.out hb5 hb.1 hb.2); have kB := And.intro ((Z1.out.1.cell f5 (0)).trans kA.1) (And.intro ((Z2.out.1.cell f5 (0)).trans kA.2.1) (And.intro ((HNDD.out.still.cell f5 (5)).trans kA.2.2.1) (And.intro ((HAB.out.cell f5 (ao)).trans kA.2.2.2.1) ((HNDD.out.still.cell f5 (3)).trans kA.2.2.2.2)))); have HCALL := Lib.hid (HBG.out w5 _ N' c' (HCD.out.fr f5) (HSD.out.kept_below HCD.out hb5) HR5.out (show G.kv w5 (.grp n.ix K) (.func (Fn.func 52) #[] #[.pointer (some ⟨q1 + 1 + 1, 0, none⟩), .pointer (some ⟨q1 + 1, 0, none⟩)]) from ⟨_, _, n, _, rfl, Z3.out.fr f5, Wk.kv_fr f5 HKD.out, Z2.out.fr f5, hn, rfl, hi0, hi1⟩)); have HF5 := Lib.hid f5; clear hb5 hr5 f5; simp only [])
      | (go_at_call 25; (with_reducible refine HCALL.out.mono ?_); rintro e w6 ⟨rfl, hx⟩; have HX := Lib.hid hx; have kC := And.intro (((Z1.out.1.fr HF5.out).cell hx.1 (0)).trans kB.1) (And.intro (((Z2.out.1.fr HF5.out).cell hx.1 (0)).trans kB.2.1) (And.intro (((HNDD.out.still.fr HF5.out).cell hx.1 (5)).trans kB.2.2.1) (And.intro (((HAB.out.fr HF5.out).cell hx.1 (ao)).trans kB.2.2.2.1) (((HNDD.out.still.fr HF5.out).cell hx.1 (3)).trans kB.2.2.2.2)))); clear hx; simp only []))
  all_goals (go_wp2_with fail)
  all_goals go_end0
  all_goals exact ⟨rfl, HF3.out.trans (HF4.out.trans (HFD.out.trans (HF5.out.trans HX.out.1))), HX.out.2⟩
end Go.Proofs.Yteimpcjafgllpaa
namespace Go.Proofs.Yteimpcjafgllpaa
open Go.RowKit
set_option maxRecDepth 100000 in
set_option maxHeartbeats 4000000 in
theorem beg_q (G : Wk) (hwf : G.wf) (s s' : Mean.St) (n : Mean.Un) (pl : Nat) (nt : List Int) (K : Mean.Kt) (hkind : n.kind = -1) (hm : s.met (n.ad, pl, false) = 0) (h : G.chain (s.mark (n.ad, pl, false)) (Mean.first G.t n pl nt K) s') (hb : s.calls ≤ 4611686018427387904) : G.does s (.beg n pl nt K) s' := by
  intro hn hpl hlen w v N c hc hs hr hk
  obtain ⟨vf, vc, rfl, hgo⟩ := kv_func hk
  obtain ⟨f3, hs3, x1, x2, x3⟩ := boxes3 hc hs 47 53 82 (.pointer (some ⟨G.wb, 0, none⟩)) (.pointer (some ⟨n.ad, 0, none⟩)) (.func (Fn.func vf) #[] vc)
  have HF3 := Lib.hid f3
  have HC3 := Lib.hid (hc.fr f3)
  have HR3 := Lib.hid (hr.fr f3)
  have HK3 := Lib.hid (Wk.kv_fr f3 hk)
  have HON := Lib.hid (once_any G _ s (n.ad, pl, false) (hc.fr f3) hs3 ⟨n, hn, rfl⟩ hb)
  have X1 := Lib.hid x1
  have X2 := Lib.hid x2
  have X3 := Lib.hid x3
  have c1 := x1.2
  have c2 := x2.2
  have c3 := x3.2
  have HH := Lib.hid h
  have HWF := Lib.hid hwf
  clear f3 hs3 x1 x2 x3 hc hs hr hk h hwf
  generalize hw3 : ((w.alloc (.cells #[.pointer (some ⟨G.wb, 0, none⟩)] 47)).alloc (.cells #[.pointer (some ⟨n.ad, 0, none⟩)] 53)).alloc (.cells #[.func (Fn.func vf) #[] vc] 82) = w3 at *
  unfold kv at HON
  generalize hq1 : w.heap.size = q1 at *
  go_enter Try.func25, Try.ntmps25
  go_wp2_with fail
  refine HON.out.mono ?_
  rintro e w4 ⟨rfl, hf4, hs4⟩
  have HF4 := Lib.hid hf4
  have HS4 := Lib.hid hs4
  have Y1 := Lib.hid (X1.out.fr hf4)
  have Y2 := Lib.hid (X2.out.fr hf4)
  have Y3 := Lib.hid (X3.out.fr hf4)
  have HC4 := Lib.hid (HC3.out.fr hf4)
  have HR4 := Lib.hid (HR3.out.fr hf4)
  have HK4 := Lib.hid (Wk.kv_fr hf4 HK3.out)
  have m1 := Y1.out.2
  have m2 := Y2.out.2
  have m3 := Y3.out.2
  obtain ⟨ra, rc, sa, sc, hnd⟩ := HC4.out.nodes n hn
  have HND := Lib.hid hnd
  have n0 : w4.cell? ⟨n.ad, 0, none⟩ = some (.int .i64 n.kind) := hnd.blk.cell 0
  clear hf4 hs4 hnd c1 c2 c3 HON hw3
  rw [hkind] at n0
  have hmd : decide (s.met (n.ad, pl, false) = 0) = true := by simpa using hm
  rw [hmd]
  have hh := HH.out
  unfold Mean.first at hh
  simp only [hkind] at hh
  clear hmd HH
  simp only [reduceIte, Int.reduceNeg, Int.reduceEq] at hh
  have HCH := Lib.hid (choose_any G _ s' n pl nt K K hh hn (HWF.out.one n hn (.inr (.inl hkind))) HWF.out.closed hpl hlen w4 _ _ N c HC4.out HS4.out HR4.out HK4.out HK4.out)
  clear hh
  simp only []
  go_wp2_with fail
  refine HCH.out.mono ?_
  rintro e w5 ⟨rfl, hx⟩
  have HX := Lib.hid hx
  clear hx
  simp only []
  go_wp2_with fail
  go_end0
  exact ⟨rfl, HF3.out.trans (HF4.out.trans HX.out.1), HX.out.2⟩
end Go.Proofs.Yteimpcjafgllpaa
namespace Go.Proofs.Yteimpcjafgllpaa
open Go.RowKit
set_option maxRecDepth 100000 in
set_option maxHeartbeats 4000000 in
theorem beg_s (G : Wk) (hwf : G.wf) (s s' : Mean.St) (n : Mean.Un) (pl : Nat) (nt : List Int) (K : Mean.Kt) (hkind : n.kind = -2) (hm : s.met (n.ad, pl, false) = 0) (h : G.chain (s.mark (n.ad, pl, false)) (Mean.first G.t n pl nt K) s') (hb : s.calls ≤ 4611686018427387904) : G.does s (.beg n pl nt K) s' := by
  intro hn hpl hlen w v N c hc hs hr hk
  obtain ⟨vf, vc, rfl, hgo⟩ := kv_func hk
  obtain ⟨f3, hs3, x1, x2, x3⟩ := boxes3 hc hs 47 53 82 (.pointer (some ⟨G.wb, 0, none⟩)) (.pointer (some ⟨n.ad, 0, none⟩)) (.func (Fn.func vf) #[] vc)
  have HF3 := Lib.hid f3
  have HC3 := Lib.hid (hc.fr f3)
  have HR3 := Lib.hid (hr.fr f3)
  have HK3 := Lib.hid (Wk.kv_fr f3 hk)
  have HON := Lib.hid (once_any G _ s (n.ad, pl, false) (hc.fr f3) hs3 ⟨n, hn, rfl⟩ hb)
  have X1 := Lib.hid x1
  have X2 := Lib.hid x2
  have X3 := Lib.hid x3
  have c1 := x1.2
  have c2 := x2.2
  have c3 := x3.2
  have HH := Lib.hid h
  have HWF := Lib.hid hwf
  clear f3 hs3 x1 x2 x3 hc hs hr hk h hwf
  generalize hw3 : ((w.alloc (.cells #[.pointer (some ⟨G.wb, 0, none⟩)] 47)).alloc (.cells #[.pointer (some ⟨n.ad, 0, none⟩)] 53)).alloc (.cells #[.func (Fn.func vf) #[] vc] 82) = w3 at *
  unfold kv at HON
  generalize hq1 : w.heap.size = q1 at *
  go_enter Try.func25, Try.ntmps25
  go_wp2_with fail
  refine HON.out.mono ?_
  rintro e w4 ⟨rfl, hf4, hs4⟩
  have HF4 := Lib.hid hf4
  have HS4 := Lib.hid hs4
  have Y1 := Lib.hid (X1.out.fr hf4)
  have Y2 := Lib.hid (X2.out.fr hf4)
  have Y3 := Lib.hid (X3.out.fr hf4)
  have HC4 := Lib.hid (HC3.out.fr hf4)
  have HR4 := Lib.hid (HR3.out.fr hf4)
  have HK4 := Lib.hid (Wk.kv_fr hf4 HK3.out)
  have m1 := Y1.out.2
  have m2 := Y2.out.2
  have m3 := Y3.out.2
  obtain ⟨ra, rc, sa, sc, hnd⟩ := HC4.out.nodes n hn
  have HND := Lib.hid hnd
  have n0 : w4.cell? ⟨n.ad, 0, none⟩ = some (.int .i64 n.kind) := hnd.blk.cell 0
  clear hf4 hs4 hnd c1 c2 c3 HON hw3
  rw [hkind] at n0
  have hmd : decide (s.met (n.ad, pl, false) = 0) = true := by simpa using hm
  rw [hmd]
  have hh := HH.out
  unfold Mean.first at hh
  simp only [hkind] at hh
  clear hmd HH
  simp only [reduceIte, Int.reduceNeg, Int.reduceEq] at hh
  obtain ⟨s1, h1, rfl⟩ := hh
  have HCH := Lib.hid (h1 hn hpl hlen w4 _ N c HC4.out HS4.out HR4.out HK4.out)
  clear h1
  simp only []
  go_wp2_with fail
  refine HCH.out.mono ?_
  rintro e w5 ⟨rfl, hx⟩
  have HX := Lib.hid hx
  clear hx
  simp only []
  go_wp2_with fail
  go_end0
  exact ⟨rfl, HF3.out.trans (HF4.out.trans HX.out.1), HX.out.2⟩
end Go.Proofs.Yteimpcjafgllpaa
namespace Go.Proofs.Yteimpcjafgllpaa
open Go.RowKit
set_option maxRecDepth 100000 in
set_option maxHeartbeats 4000000 in
theorem beg_p (G : Wk) (hwf : G.wf) (s s' : Mean.St) (n : Mean.Un) (pl : Nat) (nt : List Int) (K : Mean.Kt) (hkind : n.kind = -3) (hm : s.met (n.ad, pl, false) = 0) (h : G.chain (s.mark (n.ad, pl, false)) (Mean.first G.t n pl nt K) s') (hb : s.calls ≤ 4611686018427387904) : G.does s (.beg n pl nt K) s' := by
  intro hn hpl hlen w v N c hc hs hr hk
  obtain ⟨vf, vc, rfl, hgo⟩ := kv_func hk
  obtain ⟨f3, hs3, x1, x2, x3⟩ := boxes3 hc hs 47 53 82 (.pointer (some ⟨G.wb, 0, none⟩)) (.pointer (some ⟨n.ad, 0, none⟩)) (.func (Fn.func vf) #[] vc)
  have HF3 := Lib.hid f3
  have HC3 := Lib.hid (hc.fr f3)
  have HR3 := Lib.hid (hr.fr f3)
  have HK3 := Lib.hid (Wk.kv_fr f3 hk)
  have HON := Lib.hid (once_any G _ s (n.ad, pl, false) (hc.fr f3) hs3 ⟨n, hn, rfl⟩ hb)
  have X1 := Lib.hid x1
  have X2 := Lib.hid x2
  have X3 := Lib.hid x3
  have c1 := x1.2
  have c2 := x2.2
  have c3 := x3.2
  have HH := Lib.hid h
  have HWF := Lib.hid hwf
  clear f3 hs3 x1 x2 x3 hc hs hr hk h hwf
  generalize hw3 : ((w.alloc (.cells #[.pointer (some ⟨G.wb, 0, none⟩)] 47)).alloc (.cells #[.pointer (some ⟨n.ad, 0, none⟩)] 53)).alloc (.cells #[.func (Fn.func vf) #[] vc] 82) = w3 at *
  unfold kv at HON
  generalize hq1 : w.heap.size = q1 at *
  go_enter Try.func25, Try.ntmps25
  go_wp2_with fail
  refine HON.out.mono ?_
  rintro e w4 ⟨rfl, hf4, hs4⟩
  have HF4 := Lib.hid hf4
  have HS4 := Lib.hid hs4
  have Y1 := Lib.hid (X1.out.fr hf4)
  have Y2 := Lib.hid (X2.out.fr hf4)
  have Y3 := Lib.hid (X3.out.fr hf4)
  have HC4 := Lib.hid (HC3.out.fr hf4)
  have HR4 := Lib.hid (HR3.out.fr hf4)
  have HK4 := Lib.hid (Wk.kv_fr hf4 HK3.out)
  have m1 := Y1.out.2
  have m2 := Y2.out.2
  have m3 := Y3.out.2
  obtain ⟨ra, rc, sa, sc, hnd⟩ := HC4.out.nodes n hn
  have HND := Lib.hid hnd
  have n0 : w4.cell? ⟨n.ad, 0, none⟩ = some (.int .i64 n.kind) := hnd.blk.cell 0
  clear hf4 hs4 hnd c1 c2 c3 HON hw3
  rw [hkind] at n0
  have hmd : decide (s.met (n.ad, pl, false) = 0) = true := by simpa using hm
  rw [hmd]
  have hh := HH.out
  unfold Mean.first at hh
  simp only [hkind] at hh
  clear hmd HH
  simp only [reduceIte, Int.reduceNeg, Int.reduceEq] at hh
  have fd : G.fr w4 w4.drew := HC4.out.below (bdrewN (Below.refl _ _) 1)
  have HFD := Lib.hid fd
  have HCD := Lib.hid (HC4.out.fr fd)
  have HSD := Lib.hid (HS4.out.kept_below HC4.out (bdrewN (Below.refl _ _) 1))
  have HRD := Lib.hid (HR4.out.fr fd)
  have HKD := Lib.hid (Wk.kv_fr fd HK4.out)
  have Z1 := Lib.hid (Y1.out.fr fd)
  have Z2 := Lib.hid (Y2.out.fr fd)
  have Z3 := Lib.hid (Y3.out.fr fd)
  have HNDD := Lib.hid (HND.out.fr fd)
  clear fd
  obtain ⟨s0, l0, hsub⟩ : ∃ s0 l0, n.subs = s0 :: l0 := by
    cases e : n.subs with
    | nil => exact absurd e (HWF.out.one n hn (.inr (.inr (.inr hkind))))
    | cons a l => exact ⟨a, l, rfl⟩
  have hs0 : s0 ∈ G.U := HWF.out.closed n hn s0 (by rw [hsub]; exact List.mem_cons_self)
  have hlen0 : n.subs.length = l0.length + 1 := by rw [hsub]; rfl
  have hrd := HNDD.out.subs
  rw [hlen0] at hrd
  obtain ⟨ab, ao, rfl, hab, hac⟩ := rd_pos hrd (by omega)
  have HAB := Lib.hid hab
  have c0 : w4.drew.cell? ⟨ab, ao + 0, none⟩ = some (.pointer (some ⟨s0.ad, 0, none⟩)) := hac 0 _ (by rw [hsub]; rfl)
  rw [Nat.add_zero] at c0
  have n5 : w4.drew.cell? ⟨n.ad, 5, none⟩ = some (.slice (some ⟨ab, ao, none⟩) (l0.length + 1) sc) := by have := HNDD.out.blk.cell 5; rw [hlen0] at this; exact this
  have hgt : (0 : Int) < ((l0.length : Int) + 1) := by omega
  rw [hsub] at hh
  simp only [] at hh
  clear hrd hab hac
  obtain ⟨s1, h1, rfl⟩ := hh
  have hkv : G.kv w4.drew (.dec n K) (.func (Fn.func 55) #[] #[.pointer (some ⟨q1, 0, none⟩), .pointer (some ⟨q1 + 1, 0, none⟩), .pointer (some ⟨q1 + 1 + 1, 0, none⟩)]) :=
    ⟨_, _, _, _, _, .inl rfl, rfl, Z1.out, Z2.out, hn, Z3.out, HKD.out⟩
  have HBG := Lib.hid (h1 hs0 hpl hlen w4.drew _ N c HCD.out HSD.out HRD.out hkv)
  have kA : w4.drew.cell? ⟨q1, 0, none⟩ = some (.pointer (some ⟨G.wb, 0, none⟩)) ∧ w4.drew.cell? ⟨q1 + 1, 0, none⟩ = some (.pointer (some ⟨n.ad, 0, none⟩)) ∧ w4.drew.cell? ⟨n.ad, 5, none⟩ = some (.slice (some ⟨ab, ao, none⟩) (l0.length + 1) sc) ∧ w4.drew.cell? ⟨ab, ao, none⟩ = some (.pointer (some ⟨s0.ad, 0, none⟩)) := And.intro (Z1.out.2) (And.intro (Z2.out.2) (And.intro (n5) (c0)))
  clear h1 hkv n5 c0 hsub
  simp only []
  go_wp2_with fail
  go_region_held_law (fun u => u.cell? ⟨q1, 0, none⟩ = some (.pointer (some ⟨G.wb, 0, none⟩)) ∧ u.cell? ⟨q1 + 1, 0, none⟩ = some (.pointer (some ⟨n.ad, 0, none⟩)) ∧ u.cell? ⟨n.ad, 5, none⟩ = some (.slice (some ⟨ab, ao, none⟩) (l0.length + 1) sc) ∧ u.cell? ⟨ab, ao, none⟩ = some (.pointer (some ⟨s0.ad, 0, none⟩))) (first | with_reducible exact kA | with_reducible exact kB)
    (first | (go_at_call 25; (with_reducible refine HBG.out.mono ?_); rintro e w5 ⟨rfl, hx⟩; have HX := Lib.hid hx; have kB := And.intro ((Z1.out.1.cell hx.1 (0)).trans kA.1) (And.intro ((Z2.out.1.cell hx.1 (0)).trans kA.2.1) (And.intro ((HNDD.out.still.cell hx.1 (5)).trans kA.2.2.1) ((HAB.out.cell hx.1 (ao)).trans kA.2.2.2))); clear hx; simp only []))
  go_wp2_with fail
  go_end0
  exact ⟨rfl, HF3.out.trans (HF4.out.trans (HFD.out.trans HX.out.1)), HX.out.2⟩
end Go.Proofs.Yteimpcjafgllpaa
namespace Go.Proofs.Yteimpcjafgllpaa
open Go.RowKit
theorem lensW (l : List (Nat × Option Addr × Nat × List Int)) : (outW l).length = l.length * 2 := by
  unfold outW
  induction l with
  | nil => rfl
  | cons a l ih => rw [List.flatMap_cons, List.length_append, ih, List.length_cons]; simp; omega
theorem outW_get : ∀ (l : List (Nat × Option Addr × Nat × List Int)) (i : Nat) (p : Nat × Option Addr × Nat × List Int), l[i]? = some p → (outW l)[i * 2]? = some (.int .i64 (p.1 : Int)) ∧ (outW l)[i * 2 + 1]? = some (.slice p.2.1 p.2.2.2.length p.2.2.1)
  | [], i, p, h => by simp at h
  | q :: l, 0, p, h => by
    simp only [List.getElem?_cons_zero, Option.some.injEq] at h
    subst h
    exact ⟨rfl, rfl⟩
  | q :: l, i + 1, p, h => by
    have := outW_get l i p (by simpa using h)
    have e1 : (i + 1) * 2 = i * 2 + 1 + 1 := by omega
    unfold outW at this ⊢
    rw [e1, List.flatMap_cons]
    exact this
theorem outW_append (a b : List (Nat × Option Addr × Nat × List Int)) : outW (a ++ b) = outW a ++ outW b := by unfold outW; rw [List.flatMap_append]
/-- Is there one that ends there? -/
def endB (l : List (Nat × Option Addr × Nat × List Int)) (pl : Nat) : Bool := l.any fun p => p.1 == pl
set_option maxHeartbeats 1000000 in
theorem endC_any (x : Nat) (y : Value) (pl bx : Nat) (w : World) (hy : y.oneCell' = true) (hc : w.cell? ⟨bx, 0, none⟩ = some (.int .i64 (pl : Int))) :
    Calls Try.prog 29 #[.agg #[.int .i64 (x : Int), y], .pointer (some ⟨bx, 0, none⟩)] w fun e w' => e = .returned (.bool (x == pl)) ∧ Below w.heap.size w w' := by
  have hlt := World.block_lt_of_cell? w _ hc
  have hbe : Below w.heap.size w (w.alloc (.cells #[.int .i64 (x : Int), y] 57)) := (Below.refl _ _).alloc (Nat.le_refl _) _
  have hc0 : (w.alloc (.cells #[.int .i64 (x : Int), y] 57)).cell? ⟨w.heap.size, 0, none⟩ = some (.int .i64 (x : Int)) := (Blk.new w _ [.int .i64 (x : Int), y]).cell 0
  have hc1 : (w.alloc (.cells #[.int .i64 (x : Int), y] 57)).cell? ⟨bx, 0, none⟩ = some (.int .i64 (pl : Int)) := (hbe.cell (p := ⟨bx, 0, none⟩) hlt).trans hc
  by_cases h1 : x = pl
  · subst h1
    go_enter Try.func29, Try.ntmps29
    go_wp2_with fail
    go_ret
    exact ⟨ret_bool (by first | rfl | simp), hbe⟩
  · have h2 : ¬ ((x : Int) = (pl : Int)) := by omega
    have h3 : (x == pl) = false := beq_eq_false_iff_ne.2 h1
    rw [h3]
    go_enter Try.func29, Try.ntmps29
    go_wp2_with fail
    go_ret
    exact ⟨ret_bool (beq_eq_false_iff_ne.2 h2), hbe⟩
set_option maxRecDepth 100000 in
set_option maxHeartbeats 2000000 in
theorem endI_any (A : Option Addr) (n c bx pl : Nat) (l : List (Nat × Option Addr × Nat × List Int)) (w : World) (hr : Reads w w.heap.size 2 A n c (outW l)) (hbx : w.cell? ⟨bx, 0, none⟩ = some (.int .i64 (pl : Int))) :
    Calls Try.prog 59 #[.slice A n c, .func (.func 29) #[] #[.pointer (some ⟨bx, 0, none⟩)]] w fun e w' => (∃ k : Int, e = .returned (.int .i64 k) ∧ decide (0 ≤ k) = endB l pl) ∧ Below w.heap.size w w' := by
  obtain ⟨B, hB⟩ : ∃ B, B = w.heap.size := ⟨_, rfl⟩
  have hbl := World.block_lt_of_cell? w _ hbx
  simp only [] at hbl
  rw [← hB] at hr hbl
  rw [← hB]
  have hBs : B ≤ w.heap.size := by omega
  have hlen : l.length = n := by have := hr.len; rw [lensW] at this; omega
  have HLEN := Lib.hid hlen
  have hnc := hr.le
  have hcap := hr.cap
  have HR := Lib.hid hr
  have HBX := Lib.hid hbx
  clear hB hlen hr hbx
  go_enter Try.func59, Try.ntmps59
  go_wp2_with fail
  go_loopw [8] (fun p wr => ∃ i : Nat, i ≤ n ∧ p = .int .i64 i ∧ (∀ x ∈ l.take i, (x.1 == pl) = false) ∧ Below B w wr) (fun p _ => n - (intOf p).toNat)
  case atStart => exact ⟨0, Nat.zero_le _, rfl, by simp, Below.refl _ _⟩
  case round =>
    obtain ⟨i, hi1, rfl, hno, hbel⟩ := hrel
    have hszr : B ≤ wr.heap.size := by have := hbel.size; omega
    have HNO := Lib.hid hno
    clear hno
    by_cases hlt : i < n
    · obtain ⟨x, hx⟩ : ∃ x, l[i]? = some x := ⟨_, List.getElem?_eq_getElem (by have := HLEN.out; omega)⟩
      obtain ⟨b, off, rfl, hb, hcell⟩ := (HR.out.below hbel).at_ (by omega)
      have hc1 : wr.cell? ⟨b, off + i * 2, none⟩ = some (.int .i64 (x.1 : Int)) := hcell _ _ (outW_get l i x hx).1
      have hc2 : wr.cell? ⟨b, off + i * 2 + 1, none⟩ = some (.slice x.2.1 x.2.2.2.length x.2.2.1) := by rw [Nat.add_assoc]; exact hcell _ _ (outW_get l i x hx).2
      have hcb : wr.cell? ⟨bx, 0, none⟩ = some (.int .i64 (pl : Int)) := (hbel.cell (p := ⟨bx, 0, none⟩) hbl).trans HBX.out
      have HX := Lib.hid hx
      have HC := Lib.hid (endC_any x.1 (.slice x.2.1 x.2.2.2.length x.2.2.1) pl bx wr rfl hcb)
      obtain ⟨x1, x2, x3, x4⟩ := x
      clear hcell hx hcb
      cases hd : (x1 == pl) with
      | true =>
        have HM := Lib.hid (show endB l pl = true from List.any_eq_true.2 ⟨(x1, x2, x3, x4), List.mem_of_getElem? HX.out, hd⟩)
        go_wp2_with (go_at_call 29; refine HC.out.mono ?_; rintro e w1 ⟨rfl, hb1⟩; simp only [hd])
        go_ret
        exact ⟨⟨_, rfl, by rw [HM.out]; simp⟩, hbel.trans (hb1.mono hszr)⟩
      | false =>
        go_wp2_with (go_at_call 29; refine HC.out.mono ?_; rintro e w1 ⟨rfl, hb1⟩; simp only [hd])
        go_roundw
        case rel => exact ⟨i + 1, by omega, by go_num, fun y hy => by
          rw [List.take_add_one, HX.out] at hy
          simp only [Option.toList_some, List.mem_append, List.mem_singleton] at hy
          rcases hy with hy | rfl
          · exact HNO.out y hy
          · exact hd, hbel.trans (hb1.mono hszr)⟩
        case measure => simp [intOf]; omega
    · obtain rfl : i = n := by omega
      have HM := Lib.hid (show endB l pl = false from by
        have := HNO.out
        rw [List.take_of_length_le (by have := HLEN.out; omega)] at this
        unfold endB
        rw [List.any_eq_false]
        intro x hx
        rw [this x hx]; simp)
      go_wp2_with fail
      go_ret
      exact ⟨⟨_, rfl, by rw [HM.out]; rfl⟩, hbel⟩
set_option maxHeartbeats 1000000 in
theorem endH_any (A : Option Addr) (n c bx pl : Nat) (l : List (Nat × Option Addr × Nat × List Int)) (w : World) (hr : Reads w w.heap.size 2 A n c (outW l)) (hbx : w.cell? ⟨bx, 0, none⟩ = some (.int .i64 (pl : Int))) :
    Calls Try.prog 28 #[.slice A n c, .func (.func 29) #[] #[.pointer (some ⟨bx, 0, none⟩)]] w fun e w' => e = .returned (.bool (endB l pl)) ∧ Below w.heap.size w w' := by
  have HI := Lib.hid (endI_any A n c bx pl l w hr hbx)
  clear hr hbx
  go_enter Try.func28, Try.ntmps28
  go_wp2_with fail
  refine HI.out.mono ?_
  rintro e w1 ⟨⟨k, rfl, hk⟩, hb⟩
  have HK := Lib.hid hk
  clear hk HI
  go_wp2_with fail
  go_ret
  exact ⟨ret_bool HK.out, hb⟩
end Go.Proofs.Yteimpcjafgllpaa
