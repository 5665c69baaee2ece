/- simplify: a joined row's form. -/
import Derived.Test.YtfgelkfnbohmmaaQRes
import Derived.StillTailTactics
namespace Go.Proofs.Ytfgelkfnbohmmaa
open Go.RowKit Go.Proofs.Ytfgelkfnbohmmaa.Tr

set_option maxRecDepth 100000 in
set_option maxHeartbeats 1000000 in
theorem jform_any (jb : Nat) (j : Jn) (w : World) (hj : Blk w jb 115 (jvals j)) (hJ : JB j) :
    Calls Try.prog 61 #[.pointer (some ⟨jb, 0, none⟩)] w fun e w' => e = .returned (fv (jform j)) ∧ Below w.heap.size w w' := by
  obtain ⟨a1, a2, a3, a4, a5, a6⟩ := hJ
  obtain ⟨js, jd, jn, ⟨ok, os, od, on⟩⟩ := j
  simp only [] at a1 a2 a3 a4 a5 a6
  simp only [jvals] at hj
  have hlt := hj.lt
  have c0 : w.cell? ⟨jb, 0, none⟩ = some (.int .i64 js) := hj.cell 0
  have c1 : w.cell? ⟨jb, 1, none⟩ = some (.int .i64 jd) := hj.cell 1
  have c2 : w.cell? ⟨jb, 2, none⟩ = some (.int .i64 jn) := hj.cell 2
  have c3 : w.cell? ⟨jb, 3, none⟩ = some (.int .i64 ok) := hj.cell 3
  have c4 : w.cell? ⟨jb, 4, none⟩ = some (.int .i64 os) := hj.cell 4
  have c5 : w.cell? ⟨jb, 5, none⟩ = some (.int .i64 od) := hj.cell 5
  have c6 : w.cell? ⟨jb, 6, none⟩ = some (.int .i64 on) := hj.cell 6
  have hR := Blk.new w 84 [.int .i64 0, .int .i64 0, .int .i64 0, .int .i64 0]
  have h0 : Below w.heap.size w (w.alloc (.cells #[.int .i64 0, .int .i64 0, .int .i64 0, .int .i64 0] 84)) := (Below.refl _ _).alloc (Nat.le_refl _) _
  have HR := Lib.hid hR
  have H0 := Lib.hid h0
  have HJ1 := Lib.hid (hj.alloc (.cells #[.int .i64 0, .int .i64 0, .int .i64 0, .int .i64 0] 84))
  obtain ⟨g, hg⟩ : ∃ g, g = boundF ⟨4, js + 1, jd + 1, jn⟩ := ⟨_, rfl⟩
  have hB2 := fun u => Lib.hid (bounded_any ⟨4, js + 1, jd + 1, jn⟩ u)
  rw [← hg] at hB2
  have HG := Lib.hid hg
  clear hj hR h0 hg
  simp only [fv, fvals] at hB2 ⊢
  by_cases hz : jn = 0
  · subst hz
    go_enter Try.func61, Try.ntmps61
    go_wp2_with fail
    refine bodyPost_ret (form_ret rfl _ _ w.heap.size _ _ _ _ rfl (Blk.new w _ [_, _, _, _])) rfl ?_
    exact ⟨rfl, (Below.refl _ _).alloc (Nat.le_refl _) _⟩
  · by_cases h1 : jn = 1
    · subst h1
      go_enter Try.func61, Try.ntmps61
      go_wp2_with fail
      refine bodyPost_ret (form_ret rfl _ _ w.heap.size _ _ _ _ rfl (Blk.new w _ [_, _, _, _])) rfl ?_
      exact ⟨rfl, (Below.refl _ _).alloc (Nat.le_refl _) _⟩
    · have HZ := Lib.hid hz
      have HZ1 := Lib.hid h1
      have h0b : (jn == 0) = false := by simpa using hz
      have h1b : (jn == 1) = false := by simpa using h1
      go_enter Try.func61, Try.ntmps61
      go_wp2_with fail
      clear c0 c1 c2 c3 c4 c5 c6
      generalize w.alloc (.cells #[.int .i64 0, .int .i64 0, .int .i64 0, .int .i64 0] 84) = w1 at *
      have c0 : w1.drew.cell? ⟨jb, 0, none⟩ = some (.int .i64 js) := HJ1.out.cell 0
      have c1 : w1.drew.cell? ⟨jb, 1, none⟩ = some (.int .i64 jd) := HJ1.out.cell 1
      have c2 : w1.drew.cell? ⟨jb, 2, none⟩ = some (.int .i64 jn) := HJ1.out.cell 2
      refine wp_region_still_tail 15 (by kernel_rfl) (by kernel_rfl) ?_
      simp only [List.take_succ_cons, List.take_zero, List.drop_succ_cons, List.drop_zero]
      change wpStill _ _ w1.drew _ _ _
      repeat still_step
      refine wpStill_nil ?_
      change wpList _ _ _ _ _ w1.drew
      go_wp2_with (go_at_call 62; refine (hB2 _).out.mono ?_; rintro e w2 ⟨rfl, hb2⟩; have hR2 := HR.out.drew.below hb2 HR.out.lt; have HR2 := Lib.hid hR2; have HB2 := Lib.hid ((bdrewN H0.out 1).trans (hb2.mono H0.out.size)); have q0 : w2.cell? ⟨w.heap.size, 0, none⟩ = some (.int .i64 0) := hR2.cell 0; have q1 : w2.cell? ⟨w.heap.size, 1, none⟩ = some (.int .i64 0) := hR2.cell 1; have q2 : w2.cell? ⟨w.heap.size, 2, none⟩ = some (.int .i64 0) := hR2.cell 2; have q3 : w2.cell? ⟨w.heap.size, 3, none⟩ = some (.int .i64 0) := hR2.cell 3; have s0 := hR2.frozen 0; have s1 := hR2.frozen 1; have s2 := hR2.frozen 2; have s3 := hR2.frozen 3; have s4 := hR2.lt; clear hb2 hR2; simp only [])
      refine bodyPost_ret (form_ret rfl _ _ w.heap.size (.int .i64 g.kind) (.int .i64 g.size) (.int .i64 g.deep) (.int .i64 g.subs) rfl ((((HR2.out.set_ 0 (.int .i64 g.kind)).set_ 1 (.int .i64 g.size)).set_ 2 (.int .i64 g.deep)).set_ 3 (.int .i64 g.subs))) rfl ?_
      have hjf : jform ⟨js, jd, jn, ⟨ok, os, od, on⟩⟩ = g := by unfold jform; rw [if_neg HZ.out, if_neg HZ1.out, HG.out]
      refine ⟨by rw [hjf], Below.kept HB2.out ((((Kept.setCell ⟨w.heap.size, 0, none⟩ _).trans (Kept.setCell ⟨w.heap.size, 1, none⟩ _)).trans (Kept.setCell ⟨w.heap.size, 2, none⟩ _)).trans (Kept.setCell ⟨w.heap.size, 3, none⟩ _)) ?_ HB2.out.size⟩
      intro b hb; simp at hb; omega
end Go.Proofs.Ytfgelkfnbohmmaa
/- simplify: the reckoned forms stay within the limits (plain). -/
namespace Go.Proofs.Ytfgelkfnbohmmaa
open Go.Proofs.Ytfgelkfnbohmmaa.Tr

/-- A form of something: one node at least; of a cat two Subs at least. -/
def FB1 (f : Tr.Form) : Prop := FB f ∧ 1 ≤ f.size ∧ 1 ≤ f.deep ∧ (f.kind = 4 → 2 ≤ f.subs)
def JB1 (j : Jn) : Prop := JB j ∧ (j.subs = 1 → FB1 j.only)
theorem jb1_zero : JB1 j0 := by
  simp only [JB1, JB, FB1, FB, j0]; omega
theorem fb1_leaf {k : Int} (hk : k ≠ 4) : FB1 ⟨k, 1, 1, 0⟩ := by
  simp only [FB1, FB]; omega
theorem fb1_above {k : Int} {f : Tr.Form} (h : FB1 f) (hk : k ≠ 4) : FB1 (aboveF k f) := by
  simp only [FB1, FB, aboveF, boundF, cN, cD] at h ⊢; omega
theorem jb1_put {j : Jn} {f : Tr.Form} {n : Int} (hj : JB1 j) (hf : FB1 f) (hn : 0 ≤ n) : JB1 (jput j f n) := by
  by_cases h0 : n = 0 ∨ f.kind = 1
  · obtain ⟨js, jd, jn, o⟩ := j
    have e : jput ⟨js, jd, jn, o⟩ f n = ⟨js, jd, jn, o⟩ := by
      obtain ⟨⟨_, h1, _, _, _, h2⟩, _⟩ := hj
      simp only [] at h1 h2
      simp only [jput, jput1, if_pos h0, cN]
      rw [Int.min_eq_left h1, Int.min_eq_left h2]
    rw [e]; exact hj
  · have hn1 : 1 ≤ n := by omega
    have m1 : 0 ≤ n * (f.size - 1) := Int.mul_nonneg hn (by have := hf.2.1; omega)
    have m2 : 0 ≤ n * f.size := Int.mul_nonneg hn (by have := hf.2.1; omega)
    by_cases h4 : f.kind = 4
    · have m3 : 1 * 2 ≤ n * f.subs := Int.mul_le_mul hn1 (hf.2.2.2 h4) (by decide) hn
      simp only [JB1, JB, FB1, FB] at hj hf
      simp only [JB1, JB, jput, jput1, if_neg h0, if_pos h4, cN]
      generalize n * (f.size - 1) = p at *
      generalize n * f.subs = q at *
      refine ⟨by omega, fun h => ?_⟩
      omega
    · have hff := hf
      simp only [JB1, JB, FB1, FB] at hj hf
      simp only [JB1, JB, jput, jput1, if_neg h0, if_neg h4, cN]
      generalize n * f.size = p at *
      exact ⟨by omega, fun _ => hff⟩
theorem fb1_jform {j : Jn} (hj : JB1 j) : FB1 (jform j) := by
  unfold jform
  by_cases h0 : j.subs = 0
  · rw [if_pos h0]; exact fb1_leaf (by decide)
  · by_cases h1 : j.subs = 1
    · rw [if_neg h0, if_pos h1]; exact hj.2 h1
    · rw [if_neg h0, if_neg h1]
      have h := hj.1
      simp only [JB] at h
      simp only [FB1, FB, boundF, cN, cD]
      omega
theorem fb1_opt {y : Tr.Form} (h : FB1 y) : ∀ n, FB1 (optF y n)
  | 0 => fb1_leaf (by decide)
  | n + 1 => fb1_above (fb1_jform (jb1_put (jb1_put jb1_zero h (by decide)) (fb1_opt h n) (by decide))) (by decide)
theorem fb1_times {y : Tr.Form} (h : FB1 y) {mn mx : Int} (h0 : 0 ≤ mn) : FB1 (timesF y mn mx) := by
  unfold timesF
  by_cases hm : mx < 0 ∧ mn = 0
  · rw [if_pos hm]; exact fb1_above h (by decide)
  · by_cases hx : mx < 0
    · rw [if_neg hm, if_pos hx]
      exact fb1_jform (jb1_put (jb1_put jb1_zero h (by omega)) (fb1_above h (by decide)) (by decide))
    · rw [if_neg hm, if_neg hx]
      exact fb1_jform (jb1_put (jb1_put jb1_zero h h0) (fb1_opt h _) (by decide))
theorem fb1_joins {l : List Tr.Form} : ∀ {j : Jn}, JB1 j → (∀ f ∈ l, FB1 f) → JB1 (l.foldl (fun j f => jput j f 1) j) := by
  induction l with
  | nil => intro j hj _; exact hj
  | cons f l ih =>
    intro j hj hl
    exact ih (jb1_put hj (hl f (by simp)) (by decide)) (fun g hg => hl g (by simp [hg]))
/-- An alternative's numbers, so far. -/
def AB (p : Int × Int) : Prop := 0 ≤ p.1 ∧ p.1 ≤ 200001 ∧ 0 ≤ p.2 ∧ p.2 ≤ 10001
theorem ab_put {p : Int × Int} {f : Tr.Form} (hp : AB p) (hf : FB1 f) : AB (altPutF p f) := by
  simp only [AB, FB1, FB] at hp hf
  unfold altPutF
  by_cases h : f.kind = 5
  · simp only [if_pos h, AB, cN]; omega
  · simp only [if_neg h, AB, cN]; omega
end Go.Proofs.Ytfgelkfnbohmmaa
