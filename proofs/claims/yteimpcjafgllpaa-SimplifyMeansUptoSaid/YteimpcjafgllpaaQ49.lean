/- simplify.Size: both cases. -/
import Derived.Test.YteimpcjafgllpaaQ47
namespace Go.Proofs.Yteimpcjafgllpaa
open Go.RowKit Go.Proofs.Yteimpcjafgllpaa.Tr
set_option maxRecDepth 100000 in
set_option maxHeartbeats 1000000 in
theorem size_any (t : Ta) (S : Nat → Prop) (w : World) (h : RT w S t) (hS : ∀ b, S b → b < w.heap.size) :
    Calls Try.prog 17 #[t.val] w fun e w' => e = .returned (.int .i64 (sizeV t.tr)) ∧ Below w.heap.size w w' := by
  have hb0 : Below w.heap.size w (w.alloc (.cells t.vals.toArray 25)) := (Below.refl _ _).alloc (Nat.le_refl _) _
  have HS := Lib.hid (pSound_any t S (w.alloc (.cells t.vals.toArray 25)) (h.below hS hb0) (fun b hb => Nat.lt_of_lt_of_le (hS b hb) hb0.size))
  have HB0 := Lib.hid hb0
  have HBL := Lib.hid (Blk.new w 25 t.vals)
  have hsv : sv t.tr = .int .i64 (if soundB t.tr = true then 0 else 50) := rfl
  rw [hsv] at HS
  have hsz : sizeV t.tr = if soundB t.tr = true then (reckonS t.tr).size else 0 := rfl
  have hrk := fun hs : soundB t.tr = true => fun u hb => reckon_any t (by unfold soundB at hs; simp only [Bool.and_eq_true] at hs; exact hs.1.1) S u (h.below hS hb) (fun b hb' => Nat.lt_of_lt_of_le (hS b hb') (Below.size hb))
  have HRK := Lib.hid hrk
  rw [hsz]
  clear hrk hsz hsv h hS hb0
  obtain ⟨b, hb⟩ : ∃ b, b = soundB t.tr := ⟨_, rfl⟩
  obtain ⟨f, hf⟩ : ∃ b, b = reckonS t.tr := ⟨_, rfl⟩
  rw [← hb] at HS HRK ⊢
  rw [← hf] at HRK ⊢
  clear hb hf
  cases t with
  | mk k r ra rc ast l sa sc mn mx z ix nm =>
  simp only [Ta.val, Ta.vals, fv, fvals] at HS HRK HB0 HBL ⊢
  cases b with
  | true =>
    have hfs := field_size f.kind f.size f.deep f.subs
    go_enter Try.func17, Try.ntmps17
    go_wp2_with (first
      | (go_at_call 19; refine HS.out.mono ?_; rintro e w3 ⟨rfl, hb3⟩; have HB3 := Lib.hid (HB0.out.trans (hb3.mono HB0.out.size)); have hn3 := HBL.out.below hb3 HBL.out.lt; have t0 : w3.cell? ⟨w.heap.size, 0, none⟩ = some (.int .i64 k) := hn3.cell 0; have t1 : w3.cell? ⟨w.heap.size, 1, none⟩ = some (.slice ra r.length rc) := hn3.cell 1; have t2 : w3.cell? ⟨w.heap.size, 2, none⟩ = some (.int .i64 ast) := hn3.cell 2; have t3 : w3.cell? ⟨w.heap.size, 3, none⟩ = some (.slice sa l.length sc) := hn3.cell 3; have t4 : w3.cell? ⟨w.heap.size, 4, none⟩ = some (.int .i64 mn) := hn3.cell 4; have t5 : w3.cell? ⟨w.heap.size, 5, none⟩ = some (.int .i64 mx) := hn3.cell 5; have t6 : w3.cell? ⟨w.heap.size, 6, none⟩ = some (.bool z) := hn3.cell 6; have t7 : w3.cell? ⟨w.heap.size, 7, none⟩ = some (.int .i64 ix) := hn3.cell 7; have t8 : w3.cell? ⟨w.heap.size, 8, none⟩ = some (.string nm) := hn3.cell 8; clear hb3 hn3; simp only [])
      | (go_at_call 20; refine (HRK.out rfl w3 HB3.out).mono ?_; rintro e w4 ⟨rfl, hb4⟩; have HB4 := Lib.hid hb4; clear hb4; simp only []))
    go_ret
    exact ⟨rfl, HB3.out.trans (HB4.out.mono HB3.out.size)⟩
  | false =>
    go_enter Try.func17, Try.ntmps17
    go_wp2_with (go_at_call 19; refine HS.out.mono ?_; rintro e w3 ⟨rfl, hb3⟩; have HB3 := Lib.hid (HB0.out.trans (hb3.mono HB0.out.size)); clear hb3; simp only [])
    go_ret
    exact ⟨rfl, HB3.out⟩
end Go.Proofs.Yteimpcjafgllpaa
