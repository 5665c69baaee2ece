/- pike.Run against the machine of chapter 12. -/
import Derived.Test.YteiggbbljgkloaaQPikeMain
import Derived.Test.YteiggbbljgkloaaQSameF
import Derived.Test.YteiggbbljgkloaaQAwake12
namespace Go.Proofs.Yteiggbbljgkloaa
open Go.RowKit Go.Proofs.Yteiggbbljgkloaa.Mach

/-- What lock step answers, beside what the machine of chapter 12 answers. -/
def PikeR (r : Int × Option (List Int × Int) × Nat) (err : Int) (found : Option (List Int × Int)) : Prop :=
  (r.1 = 3 ∧ err = 0) ∨ (r.1 ≠ 3 ∧ err = r.1 ∧ found = r.2.1)
theorem pike_any (A At : Option Addr) (n c nt ct : Nat) (L : List InV) (t : List Int) (start caps at_ : Int) (anch : Bool) (w : World) (hP : ReadsP w w.heap.size A n c L) (hT : Reads w w.heap.size 1 At nt ct (t.map (Value.int .i64))) :
    Calls Try.prog 14 #[.agg #[.slice A n c, .int .i64 start, .int .i64 caps], .slice At nt ct, .int .i64 at_, .bool anch] w fun e w' =>
      ∃ err found, PikePost w err found e w' ∧ PikeR (runR ⟨insL L, start, caps⟩ t at_ anch) err found := by
  have htl : t.length = nt := by have := hT.len; simpa using this
  have hnl : (insL L).length = n := by rw [insL, List.length_map]; exact hP.len
  unfold runR
  simp only [htl, hnl]
  by_cases h1 : 4194304 < nt
  · rw [if_pos h1]
    exact (pike_long A At n c nt ct L t start caps at_ anch w hP hT h1).mono fun e w' h => ⟨2, none, h, .inr ⟨by decide, rfl, rfl⟩⟩
  rw [if_neg h1]
  cases hc : checkB ⟨insL L, start, caps⟩ with
  | false =>
    rw [if_pos rfl]
    exact (pike_prog A At n c nt ct L t start caps at_ anch w hP hT (by omega) hc).mono fun e w' h => ⟨90, none, h, .inr ⟨by decide, rfl, rfl⟩⟩
  | true =>
    rw [if_neg (by decide)]
    by_cases h2 : at_ < 0 ∨ (nt : Int) < at_
    · rw [if_pos h2]
      exact (pike_arg A At n c nt ct L t start caps at_ anch w hP hT (by omega) hc h2).mono fun e w' h => ⟨1, none, h, .inr ⟨by decide, rfl, rfl⟩⟩
    rw [if_neg h2]
    refine (pike_main A At n c nt ct L t start caps at_ anch w hP hT (by omega) hc (by omega)).mono fun e w' h => ?_
    obtain ⟨found, hp, hl⟩ := h
    refine ⟨0, found, hp, ?_⟩
    by_cases h3 : 16777216 < n * (nt - at_.toNat + 1)
    · rw [if_pos h3]
      exact .inl ⟨rfl, rfl⟩
    rw [if_neg h3]
    refine .inr ⟨by simp, rfl, ?_⟩
    have := lock_search hc (by rw [htl]; omega) hl
    rw [htl] at this
    simp only [hnl] at this
    exact this.symm

set_option maxRecDepth 100000 in
set_option maxHeartbeats 4000000 in
theorem sameFind_any (b : Bool) (wh st st2 : Int) (l : List Int) (A1 A2 : Option Addr) (n c1 c2 : Nat) (w : World) (h1 : Reads w w.heap.size 1 A1 n c1 (l.map (Value.int .i64))) (h2 : Reads w w.heap.size 1 A2 n c2 (l.map (Value.int .i64)))
    : Calls Try.prog 15 #[.agg #[.bool b, .slice A1 n c1, .int .i64 wh, .int .i64 st], .agg #[.bool b, .slice A2 n c2, .int .i64 wh, .int .i64 st2]] w fun e w' => e = .returned (.bool true) ∧ Below w.heap.size w w' := by
  have hb0 : Below w.heap.size w ((w.alloc (.cells #[.bool b, .slice A1 n c1, .int .i64 wh, .int .i64 st2] 30)).alloc (.cells #[.bool b, .slice A2 n c2, .int .i64 wh, .int .i64 st2] 30)) := ((Below.refl _ _).alloc (Nat.le_refl _) _).alloc (by simp) _
  have HB0 := Lib.hid hb0
  have HS := Lib.hid (sameF_any b wh st2 l A1 A2 n c1 c2 _ ((h1.below hb0).more hb0.size) ((h2.below hb0).more hb0.size))
  clear hb0 h1 h2
  go_enter Try.func15, Try.ntmps15
  go_wp2_with (go_at_call 10; refine HS.out.mono ?_; rintro e w2 ⟨rfl, hb2⟩; have HB2 := Lib.hid hb2; clear hb2; simp only [])
  go_ret
  exact ⟨rfl, HB0.out.trans (HB2.out.mono HB0.out.size)⟩
end Go.Proofs.Yteiggbbljgkloaa
/- heronlaw12.BitstatePike: the walk. -/
namespace Go.Proofs.Yteiggbbljgkloaa
open Go.RowKit Go.Proofs.Yteiggbbljgkloaa.Mach

set_option maxRecDepth 100000 in
set_option maxHeartbeats 4000000 in
theorem pike_walk (A At : Option Addr) (n c nt ct : Nat) (L : List InV) (t : List Int) (start caps at_ : Int) (anch : Bool) (w : World) (hP : ReadsP w w.heap.size A n c L) (hT : Reads w w.heap.size 1 At nt ct (t.map (Value.int .i64))) :
    Calls Try.prog 4 #[.agg #[.slice A n c, .int .i64 start, .int .i64 caps, .slice At nt ct, .int .i64 at_, .bool anch]] w fun e w' => e = .returned (.bool true) ∧ Below w.heap.size w w' := by
  obtain ⟨⟨er, fo, stp⟩, hr⟩ : ∃ r, r = runR ⟨insL L, start, caps⟩ t at_ anch := ⟨_, rfl⟩
  have hA := Blk.new w 27 [.slice A n c, .int .i64 start, .int .i64 caps, .slice At nt ct, .int .i64 at_, .bool anch]
  have hb0 : Below w.heap.size w (w.alloc (.cells #[.slice A n c, .int .i64 start, .int .i64 caps, .slice At nt ct, .int .i64 at_, .bool anch] 27)) := (Below.refl _ _).alloc (Nat.le_refl _) _
  have BA := Lib.hid hA
  have B0 := Lib.hid hb0
  have HP := Lib.hid (hP.below hb0)
  have HT := Lib.hid (hT.below hb0)
  have HR := Lib.hid hr
  clear hA hb0 hP hT hr
  go_enter Try.func4, Try.ntmps4
  go_wp2_with (first
    | (go_at_call 5; refine (awake12_any _).mono ?_; rintro e w1 ⟨rfl, hb1⟩; have BA1 := Lib.hid (BA.out.below hb1 BA.out.lt); have HP1 := Lib.hid ((HP.out.more B0.out.size).below hb1); have HT1 := Lib.hid ((HT.out.more B0.out.size).below hb1); have B1 := Lib.hid (B0.out.trans (hb1.mono B0.out.size)); have HZ1 := Lib.hid hb1.size; have a0 : w1.cell? ⟨w.heap.size, 0, none⟩ = some (.slice A n c) := BA1.out.cell 0; have a1 : w1.cell? ⟨w.heap.size, 1, none⟩ = some (.int .i64 start) := BA1.out.cell 1; have a2 : w1.cell? ⟨w.heap.size, 2, none⟩ = some (.int .i64 caps) := BA1.out.cell 2; have a3 : w1.cell? ⟨w.heap.size, 3, none⟩ = some (.slice At nt ct) := BA1.out.cell 3; have a4 : w1.cell? ⟨w.heap.size, 4, none⟩ = some (.int .i64 at_) := BA1.out.cell 4; have a5 : w1.cell? ⟨w.heap.size, 5, none⟩ = some (.bool anch) := BA1.out.cell 5; have a6 := BA1.out.lt; clear hb1; simp only [])
    | fail)
  refine (run_any A At n c nt ct L t start caps at_ anch w1 (HP1.out.more HZ1.out) (HT1.out.more HZ1.out)).mono ?_
  rintro e w2 hrp
  rw [← HR.out] at hrp
  obtain ⟨cv, rfl, ho1, hb2⟩ := hrp
  obtain ⟨X1, c1, rfl⟩ := own_shape ho1
  obtain ⟨b1, hb1⟩ : ∃ b : Bool, b = fo.isSome := ⟨_, rfl⟩
  obtain ⟨wh, hwh⟩ : ∃ z : Int, z = fo.elim 0 (·.2) := ⟨_, rfl⟩
  obtain ⟨l1, hl1⟩ : ∃ l : List Int, l = capsOf (er, fo, stp) := ⟨_, rfl⟩
  simp only []
  rw [← hl1] at ho1 ⊢
  rw [← hb1, ← hwh]
  have HB1 := Lib.hid hb1
  have HWH := Lib.hid hwh
  have HL1 := Lib.hid hl1
  clear hb1 hwh hl1
  have BA2 := Lib.hid (BA1.out.below hb2 BA1.out.lt)
  have HP2 := Lib.hid ((HP1.out.more HZ1.out).below hb2)
  have HT2 := Lib.hid ((HT1.out.more HZ1.out).below hb2)
  have B2 := Lib.hid (B1.out.trans (hb2.mono B1.out.size))
  have HZ2 := Lib.hid hb2.size
  have HO1 := Lib.hid ho1
  clear hb2 ho1 a0 a1 a2 a3 a4 a5 a6
  have a0 : w2.cell? ⟨w.heap.size, 0, none⟩ = some (.slice A n c) := BA2.out.cell 0
  have a1 : w2.cell? ⟨w.heap.size, 1, none⟩ = some (.int .i64 start) := BA2.out.cell 1
  have a2 : w2.cell? ⟨w.heap.size, 2, none⟩ = some (.int .i64 caps) := BA2.out.cell 2
  have a3 : w2.cell? ⟨w.heap.size, 3, none⟩ = some (.slice At nt ct) := BA2.out.cell 3
  have a4 : w2.cell? ⟨w.heap.size, 4, none⟩ = some (.int .i64 at_) := BA2.out.cell 4
  have a5 : w2.cell? ⟨w.heap.size, 5, none⟩ = some (.bool anch) := BA2.out.cell 5
  have a6 := BA2.out.lt
  go_wp2_with fail
  have hbx : Below w2.heap.size w2 (w2.alloc (.cells #[.bool b1, .slice X1 l1.length c1, .int .i64 wh, .int .i64 (stp : Int)] 30)) := (Below.refl _ _).alloc (Nat.le_refl _) _
  have hF := Blk.new w2 30 [.bool b1, .slice X1 l1.length c1, .int .i64 wh, .int .i64 (stp : Int)]
  have BF := Lib.hid hF
  have BA3 := Lib.hid (BA2.out.below hbx BA2.out.lt)
  have HO3 := Lib.hid (own_below HO1.out hbx)
  have B3 := Lib.hid (B2.out.trans (hbx.mono B2.out.size))
  refine (pike_any A At n c nt ct L t start caps at_ anch _ (((HP2.out.more HZ2.out).below hbx).more hbx.size) (((HT2.out.more HZ2.out).below hbx).more hbx.size)).mono ?_
  rintro e w3 ⟨err, found, ⟨cv, st2, rfl, ho2, hb3⟩, hpr⟩
  rw [← HR.out] at hpr
  obtain ⟨X2, c2, rfl⟩ := own_shape ho2
  have BF3 := Lib.hid (BF.out.below hb3 BF.out.lt)
  have HO4 := Lib.hid (own_below HO3.out hb3)
  have B4 := Lib.hid (B3.out.trans (hb3.mono B3.out.size))
  have HO2 := Lib.hid ho2
  clear hbx hF hb3 ho2 a0 a1 a2 a3 a4 a5 a6 BF HO3 HO1 B3 B2
  generalize w2.heap.size = F0 at *
  have f0 : w3.cell? ⟨F0, 0, none⟩ = some (.bool b1) := BF3.out.cell 0
  have f1 : w3.cell? ⟨F0, 1, none⟩ = some (.slice X1 l1.length c1) := BF3.out.cell 1
  have f2 : w3.cell? ⟨F0, 2, none⟩ = some (.int .i64 wh) := BF3.out.cell 2
  have f3 : w3.cell? ⟨F0, 3, none⟩ = some (.int .i64 (stp : Int)) := BF3.out.cell 3
  have f4 := BF3.out.lt
  rcases hpr with ⟨he, rfl⟩ | ⟨he, rfl, hf⟩
  · simp only [] at he
    subst he
    simp only []
    go_wp2_with fail
    go_ret
    exact ⟨rfl, B4.out.alloc B4.out.size _⟩
  · simp only [] at he hf
    subst hf
    simp only []
    rw [← HB1.out, ← HWH.out]
    have hcl : (found.elim [] fun x => x.fst) = l1 := HL1.out.symm
    rw [hcl] at HO2 ⊢
    have hby : Below w3.heap.size w3 (w3.alloc (.cells #[.bool b1, .slice X2 l1.length c2, .int .i64 wh, .int .i64 st2] 30)) := (Below.refl _ _).alloc (Nat.le_refl _) _
    have HSF := Lib.hid (sameFind_any b1 wh (stp : Int) st2 l1 X1 X2 l1.length c1 c2 (w3.alloc (.cells #[.bool b1, .slice X2 l1.length c2, .int .i64 wh, .int .i64 st2] 30)) (Reads.of_own (own_below HO4.out hby)) (Reads.of_own (own_below HO2.out hby)))
    have B5 := Lib.hid (B4.out.trans (hby.mono B4.out.size))
    clear hby hcl
    go_wp2_with (go_at_call 15; refine HSF.out.mono ?_; rintro e w5 ⟨rfl, hb5⟩; have HB5 := Lib.hid hb5; clear hb5; simp only [])
    go_ret
    exact ⟨by simp, B5.out.trans (HB5.out.mono B5.out.size)⟩
end Go.Proofs.Yteiggbbljgkloaa
