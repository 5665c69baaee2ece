/- simplify: a joined row's form. -/
import Derived.StillTailTactics
import Derived.Test.YteimpcjafgllpaaQ25
import Derived.Test.YteimpcjafgllpaaQ34
namespace Go.Proofs.Yteimpcjafgllpaa
open Go.RowKit Go.Proofs.Yteimpcjafgllpaa.Tr
set_option maxRecDepth 100000 in
set_option maxHeartbeats 1000000 in
theorem jform_any (jb : Nat) (j : Jn) (w : World) (hj : Blk w jb 68 (jvals j)) (hJ : JB j) :
    Calls Try.prog 35 #[.pointer (some ⟨jb, 0, none⟩)] w fun e w' => e = .returned (fv (jform j)) ∧ Below w.heap.size w w' := by
  obtain ⟨a1, a2, a3, a4, a5, a6⟩ := hJ
  obtain ⟨js, jd, jn, ⟨ok, os, od, on⟩⟩ := j
  simp only [] at a1 a2 a3 a4 a5 a6
  simp only [jvals] at hj
  have hlt := hj.lt
  have c0 : w.cell? ⟨jb, 0, none⟩ = some (.int .i64 js) := hj.cell 0
  have c1 : w.cell? ⟨jb, 1, none⟩ = some (.int .i64 jd) := hj.cell 1
  have c2 : w.cell? ⟨jb, 2, none⟩ = some (.int .i64 jn) := hj.cell 2
  have c3 : w.cell? ⟨jb, 3, none⟩ = some (.int .i64 ok) := hj.cell 3
  have c4 : w.cell? ⟨jb, 4, none⟩ = some (.int .i64 os) := hj.cell 4
  have c5 : w.cell? ⟨jb, 5, none⟩ = some (.int .i64 od) := hj.cell 5
  have c6 : w.cell? ⟨jb, 6, none⟩ = some (.int .i64 on) := hj.cell 6
  have hR := Blk.new w 44 [.int .i64 0, .int .i64 0, .int .i64 0, .int .i64 0]
  have h0 : Below w.heap.size w (w.alloc (.cells #[.int .i64 0, .int .i64 0, .int .i64 0, .int .i64 0] 44)) := (Below.refl _ _).alloc (Nat.le_refl _) _
  have HR := Lib.hid hR
  have H0 := Lib.hid h0
  have HJ1 := Lib.hid (hj.alloc (.cells #[.int .i64 0, .int .i64 0, .int .i64 0, .int .i64 0] 44))
  obtain ⟨g, hg⟩ : ∃ g, g = boundF ⟨4, js + 1, jd + 1, jn⟩ := ⟨_, rfl⟩
  have hB2 := fun u => Lib.hid (bounded_any ⟨4, js + 1, jd + 1, jn⟩ u)
  rw [← hg] at hB2
  have HG := Lib.hid hg
  clear hj hR h0 hg
  simp only [fv, fvals] at hB2 ⊢
  by_cases hz : jn = 0
  · subst hz
    go_enter Try.func35, Try.ntmps35
    go_wp2_with fail
    refine bodyPost_ret (form_ret rfl _ _ w.heap.size _ _ _ _ rfl (Blk.new w _ [_, _, _, _])) rfl ?_
    exact ⟨rfl, (Below.refl _ _).alloc (Nat.le_refl _) _⟩
  · by_cases h1 : jn = 1
    · subst h1
      go_enter Try.func35, Try.ntmps35
      go_wp2_with fail
      refine bodyPost_ret (form_ret rfl _ _ w.heap.size _ _ _ _ rfl (Blk.new w _ [_, _, _, _])) rfl ?_
      exact ⟨rfl, (Below.refl _ _).alloc (Nat.le_refl _) _⟩
    · have HZ := Lib.hid hz
      have HZ1 := Lib.hid h1
      have h0b : (jn == 0) = false := by simpa using hz
      have h1b : (jn == 1) = false := by simpa using h1
      go_enter Try.func35, Try.ntmps35
      go_wp2_with fail
      clear c0 c1 c2 c3 c4 c5 c6
      generalize w.alloc (.cells #[.int .i64 0, .int .i64 0, .int .i64 0, .int .i64 0] 44) = w1 at *
      have c0 : w1.drew.cell? ⟨jb, 0, none⟩ = some (.int .i64 js) := HJ1.out.cell 0
      have c1 : w1.drew.cell? ⟨jb, 1, none⟩ = some (.int .i64 jd) := HJ1.out.cell 1
      have c2 : w1.drew.cell? ⟨jb, 2, none⟩ = some (.int .i64 jn) := HJ1.out.cell 2
      refine wp_region_still_tail 15 (by kernel_rfl) (by kernel_rfl) ?_
      simp only [List.take_succ_cons, List.take_zero, List.drop_succ_cons, List.drop_zero]
      change wpStill _ _ w1.drew _ _ _
      repeat still_step
      refine wpStill_nil ?_
      change wpList _ _ _ _ _ w1.drew
      go_wp2_with (go_at_call 36; refine (hB2 _).out.mono ?_; rintro e w2 ⟨rfl, hb2⟩; have hR2 := HR.out.drew.below hb2 HR.out.lt; have HR2 := Lib.hid hR2; have HB2 := Lib.hid ((bdrewN H0.out 1).trans (hb2.mono H0.out.size)); have q0 : w2.cell? ⟨w.heap.size, 0, none⟩ = some (.int .i64 0) := hR2.cell 0; have q1 : w2.cell? ⟨w.heap.size, 1, none⟩ = some (.int .i64 0) := hR2.cell 1; have q2 : w2.cell? ⟨w.heap.size, 2, none⟩ = some (.int .i64 0) := hR2.cell 2; have q3 : w2.cell? ⟨w.heap.size, 3, none⟩ = some (.int .i64 0) := hR2.cell 3; have s0 := hR2.frozen 0; have s1 := hR2.frozen 1; have s2 := hR2.frozen 2; have s3 := hR2.frozen 3; have s4 := hR2.lt; clear hb2 hR2; simp only [])
      refine bodyPost_ret (form_ret rfl _ _ w.heap.size (.int .i64 g.kind) (.int .i64 g.size) (.int .i64 g.deep) (.int .i64 g.subs) rfl ((((HR2.out.set_ 0 (.int .i64 g.kind)).set_ 1 (.int .i64 g.size)).set_ 2 (.int .i64 g.deep)).set_ 3 (.int .i64 g.subs))) rfl ?_
      have hjf : jform ⟨js, jd, jn, ⟨ok, os, od, on⟩⟩ = g := by unfold jform; rw [if_neg HZ.out, if_neg HZ1.out, HG.out]
      refine ⟨by rw [hjf], Below.kept HB2.out ((((Kept.setCell ⟨w.heap.size, 0, none⟩ _).trans (Kept.setCell ⟨w.heap.size, 1, none⟩ _)).trans (Kept.setCell ⟨w.heap.size, 2, none⟩ _)).trans (Kept.setCell ⟨w.heap.size, 3, none⟩ _)) ?_ HB2.out.size⟩
      intro b hb; simp at hb; omega
end Go.Proofs.Yteimpcjafgllpaa
namespace Go.Proofs.Yteimpcjafgllpaa
open Go.RowKit Go.Proofs.Yteimpcjafgllpaa.Tr
theorem times_start (w : World) (y : Tr.Form) {W : World} (hW : W = (((w.alloc (.cells #[.int .i64 y.kind, .int .i64 y.size, .int .i64 y.deep, .int .i64 y.subs] 44)).alloc (.cells #[.int .i64 0, .int .i64 0, .int .i64 0, .int .i64 0] 44)).alloc (.cells #[.int .i64 0, .int .i64 0, .int .i64 0, .int .i64 0, .int .i64 0, .int .i64 0, .int .i64 0] 68))) :
    Below w.heap.size w W ∧ Blk W w.heap.size 44 [.int .i64 y.kind, .int .i64 y.size, .int .i64 y.deep, .int .i64 y.subs] ∧ Blk W (w.heap.size + 1) 44 [.int .i64 0, .int .i64 0, .int .i64 0, .int .i64 0] ∧ Blk W (w.heap.size + 1 + 1) 68 [.int .i64 0, .int .i64 0, .int .i64 0, .int .i64 0, .int .i64 0, .int .i64 0, .int .i64 0] := by
  have e1 : (w.alloc (.cells #[.int .i64 y.kind, .int .i64 y.size, .int .i64 y.deep, .int .i64 y.subs] 44)).heap.size = w.heap.size + 1 := by simp
  have e2 : ((w.alloc (.cells #[.int .i64 y.kind, .int .i64 y.size, .int .i64 y.deep, .int .i64 y.subs] 44)).alloc (.cells #[.int .i64 0, .int .i64 0, .int .i64 0, .int .i64 0] 44)).heap.size = w.heap.size + 1 + 1 := by simp
  refine hW ▸ ⟨(two_below w _ _).alloc (by rw [e2]; omega) _, ((Blk.new w 44 [.int .i64 y.kind, .int .i64 y.size, .int .i64 y.deep, .int .i64 y.subs]).alloc _).alloc _, (two_blk w _ 44 [.int .i64 0, .int .i64 0, .int .i64 0, .int .i64 0]).alloc _, ?_⟩
  have := Blk.new ((w.alloc (.cells #[.int .i64 y.kind, .int .i64 y.size, .int .i64 y.deep, .int .i64 y.subs] 44)).alloc (.cells #[.int .i64 0, .int .i64 0, .int .i64 0, .int .i64 0] 44)) 68 [.int .i64 0, .int .i64 0, .int .i64 0, .int .i64 0, .int .i64 0, .int .i64 0, .int .i64 0]
  rw [e2] at this
  exact this
set_option maxRecDepth 100000 in
set_option maxHeartbeats 1000000 in
theorem times_any1 (y : Tr.Form) (w : World) (hy : FB1 y) (mx : Int) (hx : mx < 0) :
    Calls Try.prog 37 #[fv y, .int .i64 0, .int .i64 mx] w fun e w' => e = .returned (fv (timesF y 0 mx)) ∧ Below w.heap.size w w' := by
  have e1 : timesF y 0 mx = aboveF 6 y := by unfold timesF; rw [if_pos ⟨hx, rfl⟩]
  rw [e1]
  clear e1
  have hA := fun u => Lib.hid (above_any 6 y hy.1 u)
  obtain ⟨g, hg⟩ : ∃ g, g = aboveF 6 y := ⟨_, rfl⟩
  rw [← hg] at hA ⊢
  clear hg
  have HS := Lib.hid (times_start w y rfl)
  simp only [fv, fvals] at hA ⊢
  go_enter Try.func37, Try.ntmps37
  go_wp2_with (go_at_call 33; refine (hA _).out.mono ?_; rintro e w2 ⟨rfl, hb2⟩; have hR2 := HS.out.2.2.1.below hb2 HS.out.2.2.1.lt; have HR2 := Lib.hid hR2; have HB2 := Lib.hid (HS.out.1.trans (hb2.mono HS.out.1.size)); have q0 : w2.cell? ⟨w.heap.size + 1, 0, none⟩ = some (.int .i64 0) := hR2.cell 0; have s0 := hR2.frozen 0; have q1 : w2.cell? ⟨w.heap.size + 1, 1, none⟩ = some (.int .i64 0) := hR2.cell 1; have s1 := hR2.frozen 1; have q2 : w2.cell? ⟨w.heap.size + 1, 2, none⟩ = some (.int .i64 0) := hR2.cell 2; have s2 := hR2.frozen 2; have q3 : w2.cell? ⟨w.heap.size + 1, 3, none⟩ = some (.int .i64 0) := hR2.cell 3; have s3 := hR2.frozen 3; have s9 := hR2.lt; clear hb2 hR2; simp only [])
  refine bodyPost_ret (form_ret rfl _ _ (w.heap.size + 1) (.int .i64 g.kind) (.int .i64 g.size) (.int .i64 g.deep) (.int .i64 g.subs) rfl ((((HR2.out.set_ 0 (.int .i64 g.kind)).set_ 1 (.int .i64 g.size)).set_ 2 (.int .i64 g.deep)).set_ 3 (.int .i64 g.subs))) rfl ?_
  refine ⟨rfl, Below.kept HB2.out ((((Kept.setCell ⟨w.heap.size + 1, 0, none⟩ _).trans (Kept.setCell ⟨w.heap.size + 1, 1, none⟩ _)).trans (Kept.setCell ⟨w.heap.size + 1, 2, none⟩ _)).trans (Kept.setCell ⟨w.heap.size + 1, 3, none⟩ _)) ?_ HB2.out.size⟩
  intro b hb; simp at hb; omega
set_option maxRecDepth 100000 in
set_option maxHeartbeats 1000000 in
theorem times_any2 (y : Tr.Form) (w : World) (hy : FB1 y) (mn mx : Int) (hx : mx < 0) (h0 : 1 ≤ mn) (h1 : mn ≤ 1000) :
    Calls Try.prog 37 #[fv y, .int .i64 mn, .int .i64 mx] w fun e w' => e = .returned (fv (timesF y mn mx)) ∧ Below w.heap.size w w' := by
  have e1 : timesF y mn mx = jform (jput (jput j0 y (mn - 1)) (aboveF 6 y) 1) := by unfold timesF; rw [if_neg (by omega), if_pos hx]
  rw [e1]
  clear e1
  have hm : (mn == 0) = false := by simp; omega
  have hA := fun u => Lib.hid (above_any 6 y hy.1 u)
  have fa := fb1_above (k := 6) hy (by decide)
  have j1 := jb1_put jb1_zero hy (n := mn - 1) (by omega)
  have j2 := jb1_put j1 fa (n := 1) (by decide)
  have hP1 := fun u hu => Lib.hid (jput_any (w.heap.size + 1 + 1) j0 y (mn - 1) u hu jb1_zero.1 hy.1 (by omega) (by omega))
  obtain ⟨a, ha⟩ : ∃ g, g = aboveF 6 y := ⟨_, rfl⟩
  rw [← ha] at hA fa j2 ⊢
  have hP2 := fun u hu => Lib.hid (jput_any (w.heap.size + 1 + 1) (jput j0 y (mn - 1)) a 1 u hu j1.1 fa.1 (by decide) (by decide))
  have hF := fun u hu => Lib.hid (jform_any (w.heap.size + 1 + 1) (jput (jput j0 y (mn - 1)) a 1) u hu j2.1)
  obtain ⟨g, hg⟩ : ∃ g, g = jform (jput (jput j0 y (mn - 1)) a 1) := ⟨_, rfl⟩
  rw [← hg] at hF ⊢
  obtain ⟨ja, hja⟩ : ∃ j, j = jput j0 y (mn - 1) := ⟨_, rfl⟩
  rw [← hja] at hP1 hP2 hF
  obtain ⟨jb, hjb⟩ : ∃ j, j = jput ja a 1 := ⟨_, rfl⟩
  rw [← hjb] at hP2 hF
  clear ha hg hja hjb fa j1 j2 hy
  have HS := Lib.hid (times_start w y rfl)
  simp only [fv, fvals] at hA hP1 hP2 hF ⊢
  go_enter Try.func37, Try.ntmps37
  go_wp2_with fail
  generalize (((w.alloc (.cells #[.int .i64 y.kind, .int .i64 y.size, .int .i64 y.deep, .int .i64 y.subs] 44)).alloc (.cells #[.int .i64 0, .int .i64 0, .int .i64 0, .int .i64 0] 44)).alloc (.cells #[.int .i64 0, .int .i64 0, .int .i64 0, .int .i64 0, .int .i64 0, .int .i64 0, .int .i64 0] 68)) = w3 at *
  refine (hP1 _ HS.out.2.2.2).out.mono ?_
  rintro e w4 ⟨rfl, hj4, hk4⟩
  have HB4 := Lib.hid (Below.kept HS.out.1 hk4 (by intro k hk; simp at hk; omega) HS.out.1.size)
  have HY4 := Lib.hid (HS.out.2.1.kept hk4 (by simp; omega))
  have HR4 := Lib.hid (HS.out.2.2.1.kept hk4 (by simp))
  have HJ4 := Lib.hid hj4
  clear hk4 hj4
  simp only []
  have c0 : w4.cell? ⟨w.heap.size, 0, none⟩ = some (.int .i64 y.kind) := HY4.out.cell 0
  have c1 : w4.cell? ⟨w.heap.size, 1, none⟩ = some (.int .i64 y.size) := HY4.out.cell 1
  have c2 : w4.cell? ⟨w.heap.size, 2, none⟩ = some (.int .i64 y.deep) := HY4.out.cell 2
  have c3 : w4.cell? ⟨w.heap.size, 3, none⟩ = some (.int .i64 y.subs) := HY4.out.cell 3
  go_wp2_with fail
  refine (hA w4).out.mono ?_
  rintro e w5 ⟨rfl, hb5⟩
  have HB5 := Lib.hid (HB4.out.trans (hb5.mono HB4.out.size))
  have HY5 := Lib.hid (HY4.out.below hb5 HY4.out.lt)
  have HR5 := Lib.hid (HR4.out.below hb5 HR4.out.lt)
  have HJ5 := Lib.hid (HJ4.out.below hb5 HJ4.out.lt)
  clear hb5
  simp only []
  have c0 : w5.cell? ⟨w.heap.size, 0, none⟩ = some (.int .i64 y.kind) := HY5.out.cell 0
  have c1 : w5.cell? ⟨w.heap.size, 1, none⟩ = some (.int .i64 y.size) := HY5.out.cell 1
  have c2 : w5.cell? ⟨w.heap.size, 2, none⟩ = some (.int .i64 y.deep) := HY5.out.cell 2
  have c3 : w5.cell? ⟨w.heap.size, 3, none⟩ = some (.int .i64 y.subs) := HY5.out.cell 3
  go_wp2_with fail
  refine (hP2 w5 HJ5.out).out.mono ?_
  rintro e w6 ⟨rfl, hj6, hk6⟩
  have HB6 := Lib.hid (Below.kept HB5.out hk6 (by intro k hk; simp at hk; omega) HB5.out.size)
  have HY6 := Lib.hid (HY5.out.kept hk6 (by simp; omega))
  have HR6 := Lib.hid (HR5.out.kept hk6 (by simp))
  have HJ6 := Lib.hid hj6
  clear hk6 hj6
  simp only []
  have c0 : w6.cell? ⟨w.heap.size, 0, none⟩ = some (.int .i64 y.kind) := HY6.out.cell 0
  have c1 : w6.cell? ⟨w.heap.size, 1, none⟩ = some (.int .i64 y.size) := HY6.out.cell 1
  have c2 : w6.cell? ⟨w.heap.size, 2, none⟩ = some (.int .i64 y.deep) := HY6.out.cell 2
  have c3 : w6.cell? ⟨w.heap.size, 3, none⟩ = some (.int .i64 y.subs) := HY6.out.cell 3
  go_wp2_with fail
  refine (hF w6 HJ6.out).out.mono ?_
  rintro e w7 ⟨rfl, hb7⟩
  have HB7 := Lib.hid (HB6.out.trans (hb7.mono HB6.out.size))
  have HY7 := Lib.hid (HY6.out.below hb7 HY6.out.lt)
  have HR7 := Lib.hid (HR6.out.below hb7 HR6.out.lt)
  have HJ7 := Lib.hid (HJ6.out.below hb7 HJ6.out.lt)
  clear hb7
  simp only []
  have c0 : w7.cell? ⟨w.heap.size, 0, none⟩ = some (.int .i64 y.kind) := HY7.out.cell 0
  have c1 : w7.cell? ⟨w.heap.size, 1, none⟩ = some (.int .i64 y.size) := HY7.out.cell 1
  have c2 : w7.cell? ⟨w.heap.size, 2, none⟩ = some (.int .i64 y.deep) := HY7.out.cell 2
  have c3 : w7.cell? ⟨w.heap.size, 3, none⟩ = some (.int .i64 y.subs) := HY7.out.cell 3
  have q0 : w7.cell? ⟨w.heap.size + 1, 0, none⟩ = some (.int .i64 0) := HR7.out.cell 0
  have s0 := HR7.out.frozen 0
  have q1 : w7.cell? ⟨w.heap.size + 1, 1, none⟩ = some (.int .i64 0) := HR7.out.cell 1
  have s1 := HR7.out.frozen 1
  have q2 : w7.cell? ⟨w.heap.size + 1, 2, none⟩ = some (.int .i64 0) := HR7.out.cell 2
  have s2 := HR7.out.frozen 2
  have q3 : w7.cell? ⟨w.heap.size + 1, 3, none⟩ = some (.int .i64 0) := HR7.out.cell 3
  have s3 := HR7.out.frozen 3
  have s9 := HR7.out.lt
  go_wp2_with fail
  refine bodyPost_ret (form_ret rfl _ _ (w.heap.size + 1) (.int .i64 g.kind) (.int .i64 g.size) (.int .i64 g.deep) (.int .i64 g.subs) rfl ((((HR7.out.set_ 0 (.int .i64 g.kind)).set_ 1 (.int .i64 g.size)).set_ 2 (.int .i64 g.deep)).set_ 3 (.int .i64 g.subs))) rfl ?_
  refine ⟨rfl, Below.kept HB7.out ((((Kept.setCell ⟨w.heap.size + 1, 0, none⟩ _).trans (Kept.setCell ⟨w.heap.size + 1, 1, none⟩ _)).trans (Kept.setCell ⟨w.heap.size + 1, 2, none⟩ _)).trans (Kept.setCell ⟨w.heap.size + 1, 3, none⟩ _)) ?_ HB7.out.size⟩
  intro b hb; simp at hb; omega
/-- What stands through the loop over the top. -/
structure TS (w : World) (y : Tr.Form) (j : Jn) (ob : Nat) (f : Tr.Form) (wr : World) : Prop where
  below : Below w.heap.size w wr
  blk : Blk wr w.heap.size 44 [.int .i64 y.kind, .int .i64 y.size, .int .i64 y.deep, .int .i64 y.subs]
  res : Blk wr (w.heap.size + 1) 44 [.int .i64 0, .int .i64 0, .int .i64 0, .int .i64 0]
  jn : Blk wr (w.heap.size + 1 + 1) 68 (jvals j)
  opt : Blk wr ob 44 (fvals f)
  far : w.heap.size + 1 + 1 < ob
theorem TS.bel {w : World} {y : Tr.Form} {j : Jn} {ob : Nat} {f : Tr.Form} {wr wq : World} (h : TS w y j ob f wr) (hb : Below wr.heap.size wr wq) : TS w y j ob f wq :=
  ⟨h.below.trans (hb.mono h.below.size), h.blk.below hb h.blk.lt, h.res.below hb h.res.lt, h.jn.below hb h.jn.lt, h.opt.below hb h.opt.lt, h.far⟩
theorem TS.jpt {w : World} {y : Tr.Form} {j j' : Jn} {ob : Nat} {f : Tr.Form} {wr wq : World} (h : TS w y j ob f wr) (hb : Kept wr wq [w.heap.size + 1 + 1]) (hj : Blk wq (w.heap.size + 1 + 1) 68 (jvals j')) : TS w y j' ob f wq := by
  have hf := h.far
  exact ⟨Below.kept h.below hb (by intro k hk; simp at hk; omega) h.below.size, h.blk.kept hb (by simp; omega), h.res.kept hb (by simp), hj, h.opt.kept hb (by simp; omega), h.far⟩
theorem TS.kpt {w : World} {y : Tr.Form} {j : Jn} {ob g : Nat} {f : Tr.Form} {wr wq : World} (h : TS w y j ob f wr) (hg : ob < g) (hb : Kept wr wq [g]) : TS w y j ob f wq := by
  have hf := h.far
  exact ⟨Below.kept h.below hb (by intro k hk; simp at hk; omega) h.below.size, h.blk.kept hb (by simp; omega), h.res.kept hb (by simp; omega), h.jn.kept hb (by simp; omega), h.opt.kept hb (by simp; omega), h.far⟩
theorem TS.setf {w : World} {y : Tr.Form} {j : Jn} {ob : Nat} {f : Tr.Form} {wr : World} (h : TS w y j ob f wr) (g : Tr.Form) :
    TS w y j ob g ((((wr.setCell ⟨ob, 0, none⟩ (.int .i64 g.kind)).setCell ⟨ob, 1, none⟩ (.int .i64 g.size)).setCell ⟨ob, 2, none⟩ (.int .i64 g.deep)).setCell ⟨ob, 3, none⟩ (.int .i64 g.subs)) := by
  have hf := h.far
  have hk : Kept wr ((((wr.setCell ⟨ob, 0, none⟩ (.int .i64 g.kind)).setCell ⟨ob, 1, none⟩ (.int .i64 g.size)).setCell ⟨ob, 2, none⟩ (.int .i64 g.deep)).setCell ⟨ob, 3, none⟩ (.int .i64 g.subs)) [ob] :=
    ((((Kept.setCell ⟨ob, 0, none⟩ _).trans (Kept.setCell ⟨ob, 1, none⟩ _)).trans (Kept.setCell ⟨ob, 2, none⟩ _)).trans (Kept.setCell ⟨ob, 3, none⟩ _)).more (by intro k hk; simp at hk; exact .inl (by simp [hk]))
  exact ⟨Below.kept h.below hk (by intro k hk; simp at hk; omega) h.below.size, h.blk.kept hk (by simp; omega), h.res.kept hk (by simp; omega), h.jn.kept hk (by simp; omega), (((h.opt.set_ 0 _).set_ 1 _).set_ 2 _).set_ 3 _, h.far⟩
set_option maxRecDepth 100000 in
set_option maxHeartbeats 1000000 in
theorem times_any3 (y : Tr.Form) (w : World) (hy : FB1 y) (mn mx : Int) (hx : 0 ≤ mx) (hx1 : mx ≤ 1000) (h0 : 0 ≤ mn) (h1 : mn ≤ 1000) :
    Calls Try.prog 37 #[fv y, .int .i64 mn, .int .i64 mx] w fun e w' => e = .returned (fv (timesF y mn mx)) ∧ Below w.heap.size w w' := by
  have e1 : timesF y mn mx = jform (jput (jput j0 y mn) (optF y (mx - mn).toNat) 1) := by unfold timesF; rw [if_neg (by omega), if_neg (by omega)]
  rw [e1]
  clear e1
  have hm : ¬ mx < 0 := by omega
  have HY := Lib.hid hy
  obtain ⟨n, hn⟩ : ∃ n : Nat, n = (mx - mn).toNat := ⟨_, rfl⟩
  rw [← hn]
  have HN := Lib.hid hn
  clear hn
  have j1 := jb1_put jb1_zero hy (n := mn) (by omega)
  have hP1 := fun u hu => Lib.hid (jput_any (w.heap.size + 1 + 1) j0 y mn u hu jb1_zero.1 hy.1 h0 h1)
  have HJ1 := Lib.hid j1
  obtain ⟨ja, hja⟩ : ∃ j, j = jput j0 y mn := ⟨_, rfl⟩
  rw [← hja] at hP1 HJ1 ⊢
  clear hja j1 hy
  have HS := Lib.hid (times_start w y rfl)
  simp only [fv, fvals] at hP1 ⊢
  go_enter Try.func37, Try.ntmps37
  go_wp2_with fail
  generalize (((w.alloc (.cells #[.int .i64 y.kind, .int .i64 y.size, .int .i64 y.deep, .int .i64 y.subs] 44)).alloc (.cells #[.int .i64 0, .int .i64 0, .int .i64 0, .int .i64 0] 44)).alloc (.cells #[.int .i64 0, .int .i64 0, .int .i64 0, .int .i64 0, .int .i64 0, .int .i64 0, .int .i64 0] 68)) = w3 at *
  refine (hP1 _ HS.out.2.2.2).out.mono ?_
  rintro e w4 ⟨rfl, hj4, hk4⟩
  have HB4 := Lib.hid (Below.kept HS.out.1 hk4 (by intro k hk; simp at hk; omega) HS.out.1.size)
  have HY4 := Lib.hid (HS.out.2.1.kept hk4 (by simp; omega))
  have HR4 := Lib.hid (HS.out.2.2.1.kept hk4 (by simp))
  have HJ4 := Lib.hid hj4
  clear hk4 hj4
  simp only []
  have c0 : w4.cell? ⟨w.heap.size, 0, none⟩ = some (.int .i64 y.kind) := HY4.out.cell 0
  have c1 : w4.cell? ⟨w.heap.size, 1, none⟩ = some (.int .i64 y.size) := HY4.out.cell 1
  have c2 : w4.cell? ⟨w.heap.size, 2, none⟩ = some (.int .i64 y.deep) := HY4.out.cell 2
  have c3 : w4.cell? ⟨w.heap.size, 3, none⟩ = some (.int .i64 y.subs) := HY4.out.cell 3
  go_wp2_with fail
  have HT := Lib.hid (show TS w y ja w4.heap.size (optF y 0) (w4.alloc (.cells #[.int .i64 1, .int .i64 1, .int .i64 1, .int .i64 0] 44)) from
    ⟨HB4.out.alloc HB4.out.size _, HY4.out.alloc _, HR4.out.alloc _, HJ4.out.alloc _, Blk.new w4 _ [.int .i64 1, .int .i64 1, .int .i64 1, .int .i64 0], HJ4.out.lt⟩)
  clear c0 c1 c2 c3 HS HB4 HY4 HR4 HJ4
  generalize w4.alloc (.cells #[.int .i64 1, .int .i64 1, .int .i64 1, .int .i64 0] 44) = w5 at *
  generalize w4.heap.size = ob at *
  go_loopw [17] (fun q wr => ∃ i : Nat, i ≤ n ∧ q = .int .i64 (i : Int) ∧ TS w y ja ob (optF y i) wr) (fun q _ => n - (intOf q).toNat)
  case atStart => exact ⟨0, Nat.zero_le _, rfl, HT.out⟩
  case round =>
    obtain ⟨i, hi, rfl, ht⟩ := hrel
    have HT1 := Lib.hid ht
    clear ht
    by_cases hlt : i < n
    · have hlt2 : (i : Int) < mx - mn := by have := HN.out; omega
      have fo1 := fb1_opt HY.out i
      have k1 := jb1_put jb1_zero HY.out (n := 1) (by decide)
      have k2 := jb1_put k1 fo1 (n := 1) (by decide)
      have k3 := fb1_jform k2
      have hg : optF y (i + 1) = aboveF 6 (jform (jput (jput j0 y 1) (optF y i) 1)) := rfl
      have HG := Lib.hid hg
      clear hg
      obtain ⟨fo, hfo⟩ : ∃ f, f = optF y i := ⟨_, rfl⟩
      rw [← hfo] at HT1 HG fo1 k2 k3
      have hA1 := fun ib u hu => Lib.hid (jput_any ib j0 y 1 u hu jb1_zero.1 HY.out.1 (by decide) (by decide))
      have hA2 := fun ib u hu => Lib.hid (jput_any ib (jput j0 y 1) fo 1 u hu k1.1 fo1.1 (by decide) (by decide))
      have hA3 := fun ib u hu => Lib.hid (jform_any ib (jput (jput j0 y 1) fo 1) u hu k2.1)
      have hA4 := fun u => Lib.hid (above_any 6 (jform (jput (jput j0 y 1) fo 1)) k3.1 u)
      rw [← HG.out] at hA4
      obtain ⟨g, hg⟩ : ∃ g, g = optF y (i + 1) := ⟨_, rfl⟩
      rw [← hg] at hA4
      have HGG := Lib.hid hg
      obtain ⟨m1, hm1⟩ : ∃ m, m = jput j0 y 1 := ⟨_, rfl⟩
      rw [← hm1] at hA1 hA2 hA3 hA4
      obtain ⟨m2, hm2⟩ : ∃ m, m = jput m1 fo 1 := ⟨_, rfl⟩
      rw [← hm2] at hA2 hA3 hA4
      obtain ⟨m3, hm3⟩ : ∃ m, m = jform m2 := ⟨_, rfl⟩
      rw [← hm3] at hA3 hA4
      clear hg hm1 hm2 hm3 hfo fo1 k1 k2 k3 HG
      simp only [fv, fvals] at hA1 hA2 hA3 hA4
      have HQ := Lib.hid (HT1.out.bel ((Below.refl _ _).alloc (Nat.le_refl _) (.cells #[.int .i64 0, .int .i64 0, .int .i64 0, .int .i64 0, .int .i64 0, .int .i64 0, .int .i64 0] 68)))
      have c0 : (wr.alloc (.cells #[.int .i64 0, .int .i64 0, .int .i64 0, .int .i64 0, .int .i64 0, .int .i64 0, .int .i64 0] 68)).cell? ⟨w.heap.size, 0, none⟩ = some (.int .i64 y.kind) := HQ.out.blk.cell 0
      have c1 : (wr.alloc (.cells #[.int .i64 0, .int .i64 0, .int .i64 0, .int .i64 0, .int .i64 0, .int .i64 0, .int .i64 0] 68)).cell? ⟨w.heap.size, 1, none⟩ = some (.int .i64 y.size) := HQ.out.blk.cell 1
      have c2 : (wr.alloc (.cells #[.int .i64 0, .int .i64 0, .int .i64 0, .int .i64 0, .int .i64 0, .int .i64 0, .int .i64 0] 68)).cell? ⟨w.heap.size, 2, none⟩ = some (.int .i64 y.deep) := HQ.out.blk.cell 2
      have c3 : (wr.alloc (.cells #[.int .i64 0, .int .i64 0, .int .i64 0, .int .i64 0, .int .i64 0, .int .i64 0, .int .i64 0] 68)).cell? ⟨w.heap.size, 3, none⟩ = some (.int .i64 y.subs) := HQ.out.blk.cell 3
      go_wp2_with fail
      have HI := Lib.hid (Blk.new wr 68 [.int .i64 0, .int .i64 0, .int .i64 0, .int .i64 0, .int .i64 0, .int .i64 0, .int .i64 0])
      have hob := HT1.out.opt.lt
      clear c0 c1 c2 c3 HT1
      generalize wr.alloc (.cells #[.int .i64 0, .int .i64 0, .int .i64 0, .int .i64 0, .int .i64 0, .int .i64 0, .int .i64 0] 68) = wa at *
      generalize wr.heap.size = ib at *
      refine (hA1 ib wa HI.out).out.mono ?_
      rintro e w6 ⟨rfl, hj6, hk6⟩
      have HT6 := Lib.hid (HQ.out.kpt hob hk6)
      have HI6 := Lib.hid hj6
      clear hj6 hk6
      simp only []
      have o0 : w6.cell? ⟨ob, 0, none⟩ = some (.int .i64 fo.kind) := HT6.out.opt.cell 0
      have o1 : w6.cell? ⟨ob, 1, none⟩ = some (.int .i64 fo.size) := HT6.out.opt.cell 1
      have o2 : w6.cell? ⟨ob, 2, none⟩ = some (.int .i64 fo.deep) := HT6.out.opt.cell 2
      have o3 : w6.cell? ⟨ob, 3, none⟩ = some (.int .i64 fo.subs) := HT6.out.opt.cell 3
      go_wp2_with fail
      refine (hA2 ib w6 HI6.out).out.mono ?_
      rintro e w7 ⟨rfl, hj7, hk7⟩
      have HT7 := Lib.hid (HT6.out.kpt hob hk7)
      have HI7 := Lib.hid hj7
      clear hj7 hk7 o0 o1 o2 o3
      simp only []
      go_wp2_with fail
      refine (hA3 ib w7 HI7.out).out.mono ?_
      rintro e w8 ⟨rfl, hb8⟩
      have HT8 := Lib.hid (HT7.out.bel hb8)
      clear hb8
      simp only []
      go_wp2_with fail
      refine (hA4 w8).out.mono ?_
      rintro e w9 ⟨rfl, hb9⟩
      have HT9 := Lib.hid (HT8.out.bel hb9)
      clear hb9
      simp only []
      have o0 : w9.cell? ⟨ob, 0, none⟩ = some (.int .i64 fo.kind) := HT9.out.opt.cell 0
      have o1 : w9.cell? ⟨ob, 1, none⟩ = some (.int .i64 fo.size) := HT9.out.opt.cell 1
      have o2 : w9.cell? ⟨ob, 2, none⟩ = some (.int .i64 fo.deep) := HT9.out.opt.cell 2
      have o3 : w9.cell? ⟨ob, 3, none⟩ = some (.int .i64 fo.subs) := HT9.out.opt.cell 3
      have s0 := HT9.out.opt.frozen 0
      have s1 := HT9.out.opt.frozen 1
      have s2 := HT9.out.opt.frozen 2
      have s3 := HT9.out.opt.frozen 3
      have s4 := HT9.out.opt.lt
      go_wp2_with fail
      go_roundw
      case rel => exact ⟨i + 1, by omega, by go_num, HGG.out ▸ HT9.out.setf g⟩
      case measure => simp [intOf]; omega
    · obtain rfl : i = n := by omega
      have hlt2 : ¬ (i : Int) < mx - mn := by have := HN.out; omega
      have fo1 := fb1_opt HY.out i
      obtain ⟨fo, hfo⟩ : ∃ f, f = optF y i := ⟨_, rfl⟩
      rw [← hfo] at HT1 fo1
      have k1 := jb1_put HJ1.out fo1 (n := 1) (by decide)
      have hA1 := fun u hu => Lib.hid (jput_any (w.heap.size + 1 + 1) ja fo 1 u hu HJ1.out.1 fo1.1 (by decide) (by decide))
      have hA2 := fun u hu => Lib.hid (jform_any (w.heap.size + 1 + 1) (jput ja fo 1) u hu k1.1)
      obtain ⟨g, hg⟩ : ∃ g, g = jform (jput ja fo 1) := ⟨_, rfl⟩
      rw [← hg] at hA2
      rw [hfo] at hg
      have HGG := Lib.hid hg
      obtain ⟨m1, hm1⟩ : ∃ m, m = jput ja fo 1 := ⟨_, rfl⟩
      rw [← hm1] at hA1 hA2
      clear hg hm1 hfo fo1 k1
      simp only [fv, fvals] at hA1 hA2
      have o0 : wr.cell? ⟨ob, 0, none⟩ = some (.int .i64 fo.kind) := HT1.out.opt.cell 0
      have o1 : wr.cell? ⟨ob, 1, none⟩ = some (.int .i64 fo.size) := HT1.out.opt.cell 1
      have o2 : wr.cell? ⟨ob, 2, none⟩ = some (.int .i64 fo.deep) := HT1.out.opt.cell 2
      have o3 : wr.cell? ⟨ob, 3, none⟩ = some (.int .i64 fo.subs) := HT1.out.opt.cell 3
      go_wp2_with fail
      refine (hA1 wr HT1.out.jn).out.mono ?_
      rintro e w6 ⟨rfl, hj6, hk6⟩
      have HT6 := Lib.hid (HT1.out.jpt hk6 hj6)
      clear hj6 hk6 o0 o1 o2 o3
      simp only []
      go_wp2_with fail
      refine (hA2 w6 HT6.out.jn).out.mono ?_
      rintro e w7 ⟨rfl, hb7⟩
      have HT7 := Lib.hid (HT6.out.bel hb7)
      clear hb7
      simp only []
      have q0 : w7.cell? ⟨w.heap.size + 1, 0, none⟩ = some (.int .i64 0) := HT7.out.res.cell 0
      have s0 := HT7.out.res.frozen 0
      have q1 : w7.cell? ⟨w.heap.size + 1, 1, none⟩ = some (.int .i64 0) := HT7.out.res.cell 1
      have s1 := HT7.out.res.frozen 1
      have q2 : w7.cell? ⟨w.heap.size + 1, 2, none⟩ = some (.int .i64 0) := HT7.out.res.cell 2
      have s2 := HT7.out.res.frozen 2
      have q3 : w7.cell? ⟨w.heap.size + 1, 3, none⟩ = some (.int .i64 0) := HT7.out.res.cell 3
      have s3 := HT7.out.res.frozen 3
      have s9 := HT7.out.res.lt
      go_wp2_with fail
      rw [← HGG.out]
      refine bodyPost_ret (form_ret rfl _ _ (w.heap.size + 1) (.int .i64 g.kind) (.int .i64 g.size) (.int .i64 g.deep) (.int .i64 g.subs) rfl ((((HT7.out.res.set_ 0 (.int .i64 g.kind)).set_ 1 (.int .i64 g.size)).set_ 2 (.int .i64 g.deep)).set_ 3 (.int .i64 g.subs))) rfl ?_
      refine ⟨rfl, Below.kept HT7.out.below ((((Kept.setCell ⟨w.heap.size + 1, 0, none⟩ _).trans (Kept.setCell ⟨w.heap.size + 1, 1, none⟩ _)).trans (Kept.setCell ⟨w.heap.size + 1, 2, none⟩ _)).trans (Kept.setCell ⟨w.heap.size + 1, 3, none⟩ _)) ?_ HT7.out.below.size⟩
      intro b hb; simp at hb; omega
theorem times_any (y : Tr.Form) (w : World) (hy : FB1 y) (mn mx : Int) (h0 : 0 ≤ mn) (h1 : mn ≤ 1000) (hx : mx ≤ 1000) :
    Calls Try.prog 37 #[fv y, .int .i64 mn, .int .i64 mx] w fun e w' => e = .returned (fv (timesF y mn mx)) ∧ Below w.heap.size w w' := by
  by_cases hm : mx < 0
  · by_cases hz : mn = 0
    · subst hz; exact times_any1 y w hy mx hm
    · exact times_any2 y w hy mn mx hm (by omega) h1
  · exact times_any3 y w hy mn mx (by omega) hx h0 h1
end Go.Proofs.Yteimpcjafgllpaa
namespace Go.Proofs.Yteimpcjafgllpaa
open Go.RowKit Go.Proofs.Yteimpcjafgllpaa.Tr
theorem take_tr {l : List Ta} {i : Nat} {u : Ta} (hu : l[i]? = some u) : (trs l)[i]? = some u.tr := by rw [trs_map, List.getElem?_map, hu]; rfl
set_option maxRecDepth 100000 in
set_option maxHeartbeats 2000000 in
theorem same_any : ∀ (t t2 : Ta) (S : Nat → Prop) (w : World), RT w S t → RT w S t2 → (∀ b, S b → b < w.heap.size) → t.tr = t2.tr →
    Calls Try.prog 18 #[t.val, t2.val] w fun e w' => e = .returned (.bool true) ∧ Below w.heap.size w w' := by
  intro t
  induction t using Ta.ind with
  | h t ih =>
    intro t2 S w h h2 hS he
    cases t with
    | mk k r ra rc ast l sa sc mn mx z ix nm =>
    cases t2 with
    | mk k2 r2 ra2 rc2 ast2 l2 sa2 sc2 mn2 mx2 z2 ix2 nm2 =>
    simp only [Ta.tr, Tr.mk.injEq] at he
    obtain ⟨rfl, rfl, rfl, hl, rfl, rfl, rfl, rfl, rfl⟩ := he
    have hll2 : l2.length = l.length := by rw [← trs_length l, ← trs_length l2, hl]
    obtain ⟨⟨hR, hrl, hll, hnm⟩, hN, hL⟩ := h.parts
    obtain ⟨⟨hR2, -, -, -⟩, hN2, hL2⟩ := h2.parts
    have hsc := hN.1
    have hsc2 := hN.2.1
    have hsc3 := hN2.1
    have hsc4 := hN2.2.1
    have hrc := hR.1
    have hrc2 := hR.2.1
    have hrc3 := hR2.1
    have hrc4 := hR2.2.1
    have HLL2 := Lib.hid hll2
    have HN := Lib.hid hN
    have HN2 := Lib.hid hN2
    have HR := Lib.hid hR
    have HR2 := Lib.hid hR2
    have HL := Lib.hid hL
    have HL2 := Lib.hid hL2
    have HIH := Lib.hid ih
    have HSS := Lib.hid hS
    have HTR := Lib.hid hl
    have HB0 := Lib.hid (two_below w (.cells #[.int .i64 k, .slice ra r.length rc, .int .i64 ast, .slice sa l.length sc, .int .i64 mn, .int .i64 mx, .bool z, .int .i64 ix, .string nm] 25) (.cells #[.int .i64 k, .slice ra2 r.length rc2, .int .i64 ast, .slice sa2 l.length sc2, .int .i64 mn, .int .i64 mx, .bool z, .int .i64 ix, .string nm] 25))
    have HA := Lib.hid ((Blk.new w 25 [.int .i64 k, .slice ra r.length rc, .int .i64 ast, .slice sa l.length sc, .int .i64 mn, .int .i64 mx, .bool z, .int .i64 ix, .string nm]).alloc (.cells #[.int .i64 k, .slice ra2 r.length rc2, .int .i64 ast, .slice sa2 l.length sc2, .int .i64 mn, .int .i64 mx, .bool z, .int .i64 ix, .string nm] 25))
    have HB := Lib.hid (two_blk w (.cells #[.int .i64 k, .slice ra r.length rc, .int .i64 ast, .slice sa l.length sc, .int .i64 mn, .int .i64 mx, .bool z, .int .i64 ix, .string nm] 25) 25 [.int .i64 k, .slice ra2 r.length rc2, .int .i64 ast, .slice sa2 l.length sc2, .int .i64 mn, .int .i64 mx, .bool z, .int .i64 ix, .string nm])
    simp only [Ta.val, Ta.vals, hll2]
    clear hN hN2 hR hR2 hL hL2 ih hS hl h h2
    rw [hll2] at hsc3
    clear hll2
    go_enter Try.func18, Try.ntmps18
    go_wp2_with fail
    generalize ((w.alloc (.cells #[.int .i64 k, .slice ra r.length rc, .int .i64 ast, .slice sa l.length sc, .int .i64 mn, .int .i64 mx, .bool z, .int .i64 ix, .string nm] 25)).alloc (.cells #[.int .i64 k, .slice ra2 r.length rc2, .int .i64 ast, .slice sa2 l.length sc2, .int .i64 mn, .int .i64 mx, .bool z, .int .i64 ix, .string nm] 25)) = w2 at *
    have t1 : w2.cell? ⟨w.heap.size, 1, none⟩ = some (.slice ra r.length rc) := HA.out.cell 1
    have u1 : w2.cell? ⟨w.heap.size + 1, 1, none⟩ = some (.slice ra2 r.length rc2) := HB.out.cell 1
    go_loopw [5] (fun iv wr => ∃ (i m : Nat), i ≤ r.length ∧ iv = .int .i64 (i : Int) ∧ wr = w2.drewN m) (fun iv _ => r.length - (intOf iv).toNat)
    case atStart => exact ⟨0, 0, Nat.zero_le _, rfl, rfl⟩
    case round =>
      obtain ⟨i, m, hi, rfl, rfl⟩ := hrel
      by_cases hlt : i < r.length
      · have hlt2 : (i : Int) < (r.length : Int) := by omega
        obtain ⟨b, off, rfl, hSb, hcb⟩ := HR.out.2.2.2.2 (by omega)
        obtain ⟨b2, off2, rfl, hSb2, hcb2⟩ := HR2.out.2.2.2.2 (by omega)
        have hg := flat_get r i _ (List.getElem?_eq_getElem hlt)
        obtain ⟨x, hx⟩ : ∃ x, x = r[i]'hlt := ⟨_, rfl⟩
        rw [← hx] at hg
        clear hx
        have d0 : w2.cell? ⟨b, off + i * 2, none⟩ = some (.int .i64 x.1) := by rw [HB0.out.cell (p := ⟨b, off + i * 2, none⟩) (HSS.out b hSb)]; exact hcb _ _ hg.1
        have d1 : w2.cell? ⟨b, off + i * 2 + 1, none⟩ = some (.int .i64 x.2) := by rw [HB0.out.cell (p := ⟨b, off + i * 2 + 1, none⟩) (HSS.out b hSb)]; exact hcb _ _ hg.2
        have e0 : w2.cell? ⟨b2, off2 + i * 2, none⟩ = some (.int .i64 x.1) := by rw [HB0.out.cell (p := ⟨b2, off2 + i * 2, none⟩) (HSS.out b2 hSb2)]; exact hcb2 _ _ hg.1
        have e1 : w2.cell? ⟨b2, off2 + i * 2 + 1, none⟩ = some (.int .i64 x.2) := by rw [HB0.out.cell (p := ⟨b2, off2 + i * 2 + 1, none⟩) (HSS.out b2 hSb2)]; exact hcb2 _ _ hg.2
        clear hg hcb hcb2
        go_wp2_with fail
        go_quiet (fail)
        go_wp2_with fail
        go_roundw
        case rel => exact ⟨i + 1, m + nq, by omega, by go_num, by first | rfl | rw [World.drewN_drewN]⟩
        case measure => simp [intOf]; omega
      · obtain rfl : i = r.length := by omega
        have hlt2 : ¬ ((r.length : Int) < (r.length : Int)) := by omega
        go_wp2_with fail
        generalize hwm : w2.drewN m = wm at *
        have HBM := Lib.hid (show Below w.heap.size w wm from hwm ▸ bdrewN HB0.out m)
        have HAM := Lib.hid (show Blk wm w.heap.size 25 [.int .i64 k, .slice ra r.length rc, .int .i64 ast, .slice sa l.length sc, .int .i64 mn, .int .i64 mx, .bool z, .int .i64 ix, .string nm] from hwm ▸ HA.out.drewN m)
        have HBBM := Lib.hid (show Blk wm (w.heap.size + 1) 25 [.int .i64 k, .slice ra2 r.length rc2, .int .i64 ast, .slice sa2 l.length sc2, .int .i64 mn, .int .i64 mx, .bool z, .int .i64 ix, .string nm] from hwm ▸ HB.out.drewN m)
        clear t1 u1 hwm HA HB HB0
        go_loopw [6] (fun iv wr => ∃ i : Nat, i ≤ l.length ∧ iv = .int .i64 (i : Int) ∧ Below wm.heap.size wm wr) (fun iv _ => l.length - (intOf iv).toNat)
        case atStart => exact ⟨0, Nat.zero_le _, rfl, Below.refl _ _⟩
        case round => 
          obtain ⟨i, hi, rfl, hb⟩ := hrel
          have HBW := Lib.hid (HBM.out.trans (hb.mono HBM.out.size))
          have HBR := Lib.hid hb
          have t3 : wr.cell? ⟨w.heap.size, 3, none⟩ = some (.slice sa l.length sc) := (HAM.out.below hb HAM.out.lt).cell 3
          have u3 : wr.cell? ⟨w.heap.size + 1, 3, none⟩ = some (.slice sa2 l.length sc2) := (HBBM.out.below hb HBBM.out.lt).cell 3
          have t3d : wr.drew.cell? ⟨w.heap.size, 3, none⟩ = some (.slice sa l.length sc) := t3
          have u3d : wr.drew.cell? ⟨w.heap.size + 1, 3, none⟩ = some (.slice sa2 l.length sc2) := u3
          clear hb
          by_cases hlt : i < l.length
          · have hlt2 : (i : Int) < (l.length : Int) := by omega
            obtain ⟨b, off, rfl, hSb, _⟩ := HN.out.2.2.2.2 (by omega)
            obtain ⟨b2, off2, rfl, hSb2, _⟩ := HN2.out.2.2.2.2 (by have := HLL2.out; omega)
            obtain ⟨u, hu⟩ : ∃ u, l[i]? = some u := ⟨_, List.getElem?_eq_getElem hlt⟩
            obtain ⟨v, hv⟩ : ∃ v, l2[i]? = some v := ⟨_, List.getElem?_eq_getElem (by rw [HLL2.out]; exact hlt)⟩
            have hum : u ∈ l := List.mem_of_getElem? hu
            have hvm : v ∈ l2 := List.mem_of_getElem? hv
            have heq : u.tr = v.tr := by
              have := take_tr hu
              rw [HTR.out, take_tr hv] at this
              exact (Option.some.inj this).symm
            have hcell : ∀ j, j < 9 → wr.drew.cell? ⟨b, off + i * 9 + j, none⟩ = u.vals[j]? := fun j hj => by
              rw [Nat.add_assoc]
              rw [← HN.out.node hu hj]
              exact (HBW.out.cell (p := ⟨b, off + (i * 9 + j), none⟩) (HSS.out b hSb))
            have hcell2 : ∀ j, j < 9 → wr.drew.cell? ⟨b2, off2 + i * 9 + j, none⟩ = v.vals[j]? := fun j hj => by
              rw [Nat.add_assoc]
              rw [← HN2.out.node hv hj]
              exact (HBW.out.cell (p := ⟨b2, off2 + (i * 9 + j), none⟩) (HSS.out b2 hSb2))
            have hRK := HIH.out u hum v S wr.drew ((HL.out u hum).below HSS.out (bdrewN HBW.out 1)) ((HL2.out v hvm).below HSS.out (bdrewN HBW.out 1)) (fun b hb => Nat.lt_of_lt_of_le (HSS.out b hb) HBW.out.size) heq
            clear hu hv hum hvm heq
            cases u with
            | mk k' r' ra' rc' a' l' sa' sc' n' m' z' i' s' =>
            cases v with
            | mk k'' r'' ra'' rc'' a'' l'' sa'' sc'' n'' m'' z'' i'' s'' =>
            simp only [Ta.vals] at hcell hcell2
            simp only [Ta.val, Ta.vals] at hRK
            have c0 := hcell 0 (by omega)
            have e0 := hcell2 0 (by omega)
            have c1 := hcell 1 (by omega)
            have e1 := hcell2 1 (by omega)
            have c2 := hcell 2 (by omega)
            have e2 := hcell2 2 (by omega)
            have c3 := hcell 3 (by omega)
            have e3 := hcell2 3 (by omega)
            have c4 := hcell 4 (by omega)
            have e4 := hcell2 4 (by omega)
            have c5 := hcell 5 (by omega)
            have e5 := hcell2 5 (by omega)
            have c6 := hcell 6 (by omega)
            have e6 := hcell2 6 (by omega)
            have c7 := hcell 7 (by omega)
            have e7 := hcell2 7 (by omega)
            have c8 := hcell 8 (by omega)
            have e8 := hcell2 8 (by omega)
            simp only [List.getElem?_cons_zero, List.getElem?_cons_succ, Nat.add_zero] at c0 c1 c2 c3 c4 c5 c6 c7 c8 e0 e1 e2 e3 e4 e5 e6 e7 e8
            have HIN := Lib.hid hRK
            clear hcell hcell2 hRK
            go_wp2_with fail
            refine wp_region_still_tail 10 (by kernel_rfl) (by kernel_rfl) ?_
            simp only [List.take_succ_cons, List.take_zero, List.drop_succ_cons, List.drop_zero]
            change wpStill _ _ wr.drew _ _ _
            repeat still_step
            refine wpStill_nil ?_
            change wpList _ _ _ _ _ wr.drew
            go_wp2_with (go_at_call 18; refine HIN.out.mono ?_; rintro e w5 ⟨rfl, hb5⟩; have HB5 := Lib.hid ((bdrewN HBR.out 1).trans (hb5.mono HBR.out.size)); clear hb5; simp only [])
            go_roundw
            case rel => exact ⟨i + 1, by omega, by go_num, HB5.out⟩
            case measure => simp [intOf]; omega
          · obtain rfl : i = l.length := by omega
            have hlt2 : ¬ ((l.length : Int) < (l.length : Int)) := by omega
            go_wp2_with fail
            go_ret
            exact ⟨rfl, HBW.out⟩
end Go.Proofs.Yteimpcjafgllpaa
