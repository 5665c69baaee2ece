/- meaning.walker.begin: an assertion. -/
import Derived.Test.YteimpcjafgllpaaQ05
import Derived.Test.YteimpcjafgllpaaQ09
namespace Go.Proofs.Yteimpcjafgllpaa
open Go.RowKit Go.Proofs.Yteimpcjafgllpaa.Mach
set_option maxRecDepth 100000 in
set_option maxHeartbeats 4000000 in
theorem beg_3 (G : Wk) (hwf : G.wf) (s s' : Mean.St) (n : Mean.Un) (pl : Nat) (nt : List Int) (K : Mean.Kt) (hkind : n.kind = 3) (hm : s.met (n.ad, pl, false) = 0) (h : G.chain (s.mark (n.ad, pl, false)) (Mean.first G.t n pl nt K) s') (hb : s.calls ≤ 4611686018427387904) : G.does s (.beg n pl nt K) s' := by
  intro hn hpl hlen w v N c hc hs hr hk
  obtain ⟨vf, vc, rfl, hgo⟩ := kv_func hk
  obtain ⟨f3, hs3, x1, x2, x3⟩ := boxes3 hc hs 47 53 82 (.pointer (some ⟨G.wb, 0, none⟩)) (.pointer (some ⟨n.ad, 0, none⟩)) (.func (Fn.func vf) #[] vc)
  have HF3 := Lib.hid f3
  have HC3 := Lib.hid (hc.fr f3)
  have HR3 := Lib.hid (hr.fr f3)
  have HK3 := Lib.hid (Wk.kv_fr f3 hk)
  have HON := Lib.hid (once_any G _ s (n.ad, pl, false) (hc.fr f3) hs3 ⟨n, hn, rfl⟩ hb)
  have X1 := Lib.hid x1
  have X2 := Lib.hid x2
  have X3 := Lib.hid x3
  have c1 := x1.2
  have c2 := x2.2
  have c3 := x3.2
  have HH := Lib.hid h
  have HWF := Lib.hid hwf
  clear f3 hs3 x1 x2 x3 hc hs hr hk h hwf
  generalize hw3 : ((w.alloc (.cells #[.pointer (some ⟨G.wb, 0, none⟩)] 47)).alloc (.cells #[.pointer (some ⟨n.ad, 0, none⟩)] 53)).alloc (.cells #[.func (Fn.func vf) #[] vc] 82) = w3 at *
  unfold kv at HON
  generalize hq1 : w.heap.size = q1 at *
  go_enter Try.func25, Try.ntmps25
  go_wp2_with fail
  refine HON.out.mono ?_
  rintro e w4 ⟨rfl, hf4, hs4⟩
  have HF4 := Lib.hid hf4
  have HS4 := Lib.hid hs4
  have Y1 := Lib.hid (X1.out.fr hf4)
  have Y2 := Lib.hid (X2.out.fr hf4)
  have Y3 := Lib.hid (X3.out.fr hf4)
  have HC4 := Lib.hid (HC3.out.fr hf4)
  have HR4 := Lib.hid (HR3.out.fr hf4)
  have HK4 := Lib.hid (Wk.kv_fr hf4 HK3.out)
  have m1 := Y1.out.2
  have m2 := Y2.out.2
  have m3 := Y3.out.2
  obtain ⟨ra, rc, sa, sc, hnd⟩ := HC4.out.nodes n hn
  have HND := Lib.hid hnd
  have n0 : w4.cell? ⟨n.ad, 0, none⟩ = some (.int .i64 n.kind) := hnd.blk.cell 0
  clear hf4 hs4 hnd c1 c2 c3 HON hw3
  rw [hkind] at n0
  have hmd : decide (s.met (n.ad, pl, false) = 0) = true := by simpa using hm
  rw [hmd]
  have hh := HH.out
  unfold Mean.first at hh
  simp only [hkind] at hh
  clear hmd HH
  simp only [reduceIte, Int.reduceNeg, Int.reduceEq] at hh
  have fd : G.fr w4 w4.drew := HC4.out.below (bdrewN (Below.refl _ _) 1)
  have HFD := Lib.hid fd
  have HCD := Lib.hid (HC4.out.fr fd)
  have HSD := Lib.hid (HS4.out.kept_below HC4.out (bdrewN (Below.refl _ _) 1))
  have HRD := Lib.hid (HR4.out.fr fd)
  have HKD := Lib.hid (Wk.kv_fr fd HK4.out)
  have Z1 := Lib.hid (Y1.out.fr fd)
  have Z2 := Lib.hid (Y2.out.fr fd)
  have Z3 := Lib.hid (Y3.out.fr fd)
  have HNDD := Lib.hid (HND.out.fr fd)
  clear fd
  obtain ⟨j, hj, hast⟩ := HWF.out.ast n hn hkind
  have HAT := Lib.hid (at_any G.At G.nt G.ct pl G.t w4.drew (HCD.out.text.reads fun b hb => hb.1) hpl)
  have HAS := Lib.hid (fun u => holds_any j (atBits G.t pl).toNat hj (by have := atBits_bd G.t pl; omega) u)
  rw [show (((atBits G.t pl).toNat : Nat) : Int) = atBits G.t pl from by have := (atBits_bd G.t pl).1; omega, ← hast] at HAS
  obtain ⟨bq, hbq⟩ : ∃ b, b = asB G.t pl n.ast := ⟨_, rfl⟩
  rw [show decide (atBits G.t pl / n.ast % 2 = 1) = bq from hbq.symm] at HAS
  rw [← hbq] at hh
  generalize atBits G.t pl = at9 at *
  have kA : w4.drew.cell? ⟨q1, 0, none⟩ = some (.pointer (some ⟨G.wb, 0, none⟩)) ∧ w4.drew.cell? ⟨q1 + 1, 0, none⟩ = some (.pointer (some ⟨n.ad, 0, none⟩)) ∧ w4.drew.cell? ⟨n.ad, 2, none⟩ = some (.int .i64 n.ast) ∧ w4.drew.cell? ⟨G.wb, 0, none⟩ = some (.slice G.At G.nt G.ct) ∧ w4.drew.cell? ⟨q1 + 1 + 1, 0, none⟩ = some (.func (Fn.func vf) #[] vc) := And.intro (Z1.out.2) (And.intro (Z2.out.2) (And.intro (HNDD.out.blk.cell 2) (And.intro (HCD.out.wb.2.cell 0) (Z3.out.2))))
  clear hbq hast
  simp only []
  go_wp2_with fail
  go_region_held_law (fun u => u.cell? ⟨q1, 0, none⟩ = some (.pointer (some ⟨G.wb, 0, none⟩)) ∧ u.cell? ⟨q1 + 1, 0, none⟩ = some (.pointer (some ⟨n.ad, 0, none⟩)) ∧ u.cell? ⟨n.ad, 2, none⟩ = some (.int .i64 n.ast) ∧ u.cell? ⟨G.wb, 0, none⟩ = some (.slice G.At G.nt G.ct) ∧ u.cell? ⟨q1 + 1 + 1, 0, none⟩ = some (.func (Fn.func vf) #[] vc)) (first | with_reducible exact kA | with_reducible exact kB)
    (first
      | (go_at_call 49; (with_reducible refine HAT.out.mono ?_); rintro e w5 ⟨rfl, hb5⟩; have f5 := HCD.out.below hb5; have kB := And.intro ((Z1.out.1.cell f5 (0)).trans kA.1) (And.intro ((Z2.out.1.cell f5 (0)).trans kA.2.1) (And.intro ((HNDD.out.still.cell f5 (2)).trans kA.2.2.1) (And.intro ((HCD.out.wb.1.cell f5 (0)).trans kA.2.2.2.1) ((Z3.out.1.cell f5 (0)).trans kA.2.2.2.2)))); have HB5 := Lib.hid hb5; clear hb5 f5; simp only [])
      | (go_at_call 48; (with_reducible refine (HAS.out _).mono ?_); rintro e w9 ⟨rfl, rfl⟩; simp only []))
  all_goals
    have HF5 := Lib.hid (HCD.out.below HB5.out)
    have HS5 := Lib.hid (HSD.out.kept_below HCD.out HB5.out)
    cases bq with
    | true =>
      rw [if_pos rfl] at hh
      obtain ⟨s1, h1, rfl⟩ := hh
      obtain ⟨f9, c9, he9, -, hcall⟩ := h1 hpl hlen w5 _ N c (HCD.out.fr HF5.out) HS5.out (HRD.out.fr HF5.out) (Wk.kv_fr HF5.out HKD.out)
      cases he9
      have HCALL := Lib.hid hcall
      have d3 := kB.2.2.2.2
      clear hcall h1 kA kB
      go_wp2_with fail
      refine HCALL.out.mono ?_
      rintro e w6 ⟨rfl, hx⟩
      have HX := Lib.hid hx
      clear hx
      simp only []
      go_wp2_with fail
      go_end0
      exact ⟨rfl, HF3.out.trans (HF4.out.trans (HFD.out.trans (HF5.out.trans HX.out.1))), HX.out.2⟩
    | false =>
      rw [if_neg (by simp)] at hh
      obtain rfl : s' = _ := hh
      clear kA kB
      go_wp2_with fail
      go_end0
      exact ⟨rfl, HF3.out.trans (HF4.out.trans (HFD.out.trans HF5.out)), HS5.out⟩
end Go.Proofs.Yteimpcjafgllpaa
