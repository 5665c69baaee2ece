/- simplify: a joined row's form. -/
import Derived.Test.YtajpkgbgfneacaaQReck
import Derived.StillTailTactics
namespace Go.Proofs.Ytajpkgbgfneacaa
open Go.RowKit Go.Proofs.Ytajpkgbgfneacaa.Tr

set_option maxRecDepth 100000 in
set_option maxHeartbeats 1000000 in
theorem jform_any (jb : Nat) (j : Jn) (w : World) (hj : Blk w jb 52 (jvals j)) (hJ : JB j) :
    Calls Try.prog 25 #[.pointer (some ⟨jb, 0, none⟩)] w fun e w' => e = .returned (fv (jform j)) ∧ Below w.heap.size w w' := by
  obtain ⟨a1, a2, a3, a4, a5, a6⟩ := hJ
  obtain ⟨js, jd, jn, ⟨ok, os, od, on⟩⟩ := j
  simp only [] at a1 a2 a3 a4 a5 a6
  simp only [jvals] at hj
  have hlt := hj.lt
  have c0 : w.cell? ⟨jb, 0, none⟩ = some (.int .i64 js) := hj.cell 0
  have c1 : w.cell? ⟨jb, 1, none⟩ = some (.int .i64 jd) := hj.cell 1
  have c2 : w.cell? ⟨jb, 2, none⟩ = some (.int .i64 jn) := hj.cell 2
  have c3 : w.cell? ⟨jb, 3, none⟩ = some (.int .i64 ok) := hj.cell 3
  have c4 : w.cell? ⟨jb, 4, none⟩ = some (.int .i64 os) := hj.cell 4
  have c5 : w.cell? ⟨jb, 5, none⟩ = some (.int .i64 od) := hj.cell 5
  have c6 : w.cell? ⟨jb, 6, none⟩ = some (.int .i64 on) := hj.cell 6
  have hR := Blk.new w 42 [.int .i64 0, .int .i64 0, .int .i64 0, .int .i64 0]
  have h0 : Below w.heap.size w (w.alloc (.cells #[.int .i64 0, .int .i64 0, .int .i64 0, .int .i64 0] 42)) := (Below.refl _ _).alloc (Nat.le_refl _) _
  have HR := Lib.hid hR
  have H0 := Lib.hid h0
  have HJ1 := Lib.hid (hj.alloc (.cells #[.int .i64 0, .int .i64 0, .int .i64 0, .int .i64 0] 42))
  obtain ⟨g, hg⟩ : ∃ g, g = boundF ⟨4, js + 1, jd + 1, jn⟩ := ⟨_, rfl⟩
  have hB2 := fun u => Lib.hid (bounded_any ⟨4, js + 1, jd + 1, jn⟩ u)
  rw [← hg] at hB2
  have HG := Lib.hid hg
  clear hj hR h0 hg
  simp only [fv, fvals] at hB2 ⊢
  by_cases hz : jn = 0
  · subst hz
    go_enter Try.func25, Try.ntmps25
    go_wp2_with fail
    refine bodyPost_ret (form_ret rfl _ _ w.heap.size _ _ _ _ rfl (Blk.new w _ [_, _, _, _])) rfl ?_
    exact ⟨rfl, (Below.refl _ _).alloc (Nat.le_refl _) _⟩
  · by_cases h1 : jn = 1
    · subst h1
      go_enter Try.func25, Try.ntmps25
      go_wp2_with fail
      refine bodyPost_ret (form_ret rfl _ _ w.heap.size _ _ _ _ rfl (Blk.new w _ [_, _, _, _])) rfl ?_
      exact ⟨rfl, (Below.refl _ _).alloc (Nat.le_refl _) _⟩
    · have HZ := Lib.hid hz
      have HZ1 := Lib.hid h1
      have h0b : (jn == 0) = false := by simpa using hz
      have h1b : (jn == 1) = false := by simpa using h1
      go_enter Try.func25, Try.ntmps25
      go_wp2_with fail
      clear c0 c1 c2 c3 c4 c5 c6
      generalize w.alloc (.cells #[.int .i64 0, .int .i64 0, .int .i64 0, .int .i64 0] 42) = w1 at *
      have c0 : w1.drew.cell? ⟨jb, 0, none⟩ = some (.int .i64 js) := HJ1.out.cell 0
      have c1 : w1.drew.cell? ⟨jb, 1, none⟩ = some (.int .i64 jd) := HJ1.out.cell 1
      have c2 : w1.drew.cell? ⟨jb, 2, none⟩ = some (.int .i64 jn) := HJ1.out.cell 2
      refine wp_region_still_tail 15 (by kernel_rfl) (by kernel_rfl) ?_
      simp only [List.take_succ_cons, List.take_zero, List.drop_succ_cons, List.drop_zero]
      change wpStill _ _ w1.drew _ _ _
      repeat still_step
      refine wpStill_nil ?_
      change wpList _ _ _ _ _ w1.drew
      go_wp2_with (go_at_call 26; refine (hB2 _).out.mono ?_; rintro e w2 ⟨rfl, hb2⟩; have hR2 := HR.out.drew.below hb2 HR.out.lt; have HR2 := Lib.hid hR2; have HB2 := Lib.hid ((bdrewN H0.out 1).trans (hb2.mono H0.out.size)); have q0 : w2.cell? ⟨w.heap.size, 0, none⟩ = some (.int .i64 0) := hR2.cell 0; have q1 : w2.cell? ⟨w.heap.size, 1, none⟩ = some (.int .i64 0) := hR2.cell 1; have q2 : w2.cell? ⟨w.heap.size, 2, none⟩ = some (.int .i64 0) := hR2.cell 2; have q3 : w2.cell? ⟨w.heap.size, 3, none⟩ = some (.int .i64 0) := hR2.cell 3; have s0 := hR2.frozen 0; have s1 := hR2.frozen 1; have s2 := hR2.frozen 2; have s3 := hR2.frozen 3; have s4 := hR2.lt; clear hb2 hR2; simp only [])
      refine bodyPost_ret (form_ret rfl _ _ w.heap.size (.int .i64 g.kind) (.int .i64 g.size) (.int .i64 g.deep) (.int .i64 g.subs) rfl ((((HR2.out.set_ 0 (.int .i64 g.kind)).set_ 1 (.int .i64 g.size)).set_ 2 (.int .i64 g.deep)).set_ 3 (.int .i64 g.subs))) rfl ?_
      have hjf : jform ⟨js, jd, jn, ⟨ok, os, od, on⟩⟩ = g := by unfold jform; rw [if_neg HZ.out, if_neg HZ1.out, HG.out]
      refine ⟨by rw [hjf], Below.kept HB2.out ((((Kept.setCell ⟨w.heap.size, 0, none⟩ _).trans (Kept.setCell ⟨w.heap.size, 1, none⟩ _)).trans (Kept.setCell ⟨w.heap.size, 2, none⟩ _)).trans (Kept.setCell ⟨w.heap.size, 3, none⟩ _)) ?_ HB2.out.size⟩
      intro b hb; simp at hb; omega
end Go.Proofs.Ytajpkgbgfneacaa
