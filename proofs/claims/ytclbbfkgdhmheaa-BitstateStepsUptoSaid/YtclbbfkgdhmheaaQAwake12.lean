/- heronlaw12: letter, awake. -/
import Derived.Test.YtclbbfkgdhmheaaQRunMain
import Derived.Test.YtclbbfkgdhmheaaQGrt
namespace Go.Proofs.Ytclbbfkgdhmheaa
open Go.RowKit Go.Proofs.Ytclbbfkgdhmheaa.Mach

def letterL (r : Nat) : List InV := [⟨⟨3, 1, 0, 0, []⟩, none, 0, 0⟩, ⟨⟨1, 2, 0, 0, [(97, 97)]⟩, some ⟨r, 0, none⟩, 1, 1⟩, ⟨⟨3, 3, 0, 1, []⟩, none, 0, 0⟩, ⟨⟨5, 0, 0, 0, []⟩, none, 0, 0⟩]
def letterI : List Ins := [⟨3, 1, 0, 0, []⟩, ⟨1, 2, 0, 0, [(97, 97)]⟩, ⟨3, 3, 0, 1, []⟩, ⟨5, 0, 0, 0, []⟩]
theorem letter_ins (r : Nat) : insL (letterL r) = letterI := rfl
theorem letter_run1 : runR ⟨letterI, 0, 2⟩ [97, 98, 97] 1 false = (0, some ([2, 3], 0), 6) := by decide +kernel
theorem letter_run2 : runR ⟨letterI, 0, 2⟩ [97, 98, 97] 1 true = (0, none, 2) := by decide +kernel

set_option maxRecDepth 100000 in
set_option maxHeartbeats 4000000 in
theorem letter_any (w : World) :
    Calls Try.prog 12 #[] w fun e w' => e = .returned (.agg #[.slice (some ⟨w.heap.size + 1 + 1, 0, none⟩) 4 4, .int .i64 0, .int .i64 2]) ∧ Below w.heap.size w w' ∧ ReadsP w' w'.heap.size (some ⟨w.heap.size + 1 + 1, 0, none⟩) 4 4 (letterL (w.heap.size + 1)) := by
  go_enter Try.func12, Try.ntmps12
  go_wp2_with fail
  have h1 : (w.alloc (.cells #[.slice (some ⟨w.heap.size + 1 + 1, 0, none⟩) 4 4, .int .i64 0, .int .i64 2] 28)).heap.size = w.heap.size + 1 := by simp
  have h2 : ((w.alloc (.cells #[.slice (some ⟨w.heap.size + 1 + 1, 0, none⟩) 4 4, .int .i64 0, .int .i64 2] 28)).alloc (.cells #[.int .i64 97, .int .i64 97] 74)).heap.size = w.heap.size + 1 + 1 := by simp
  have hP : Blk (((w.alloc (.cells #[.slice (some ⟨w.heap.size + 1 + 1, 0, none⟩) 4 4, .int .i64 0, .int .i64 2] 28)).alloc (.cells #[.int .i64 97, .int .i64 97] 74)).alloc (.cells #[.int .i64 3, .int .i64 1, .int .i64 0, .int .i64 0, .slice none 0 0, .int .i64 1, .int .i64 2, .int .i64 0, .int .i64 0, .slice (some ⟨w.heap.size + 1, 0, none⟩) 1 1, .int .i64 3, .int .i64 3, .int .i64 0, .int .i64 1, .slice none 0 0, .int .i64 5, .int .i64 0, .int .i64 0, .int .i64 0, .slice none 0 0] 57)) w.heap.size 28 [.slice (some ⟨w.heap.size + 1 + 1, 0, none⟩) 4 4, .int .i64 0, .int .i64 2] := ((Blk.new w _ [.slice (some ⟨w.heap.size + 1 + 1, 0, none⟩) 4 4, .int .i64 0, .int .i64 2]).alloc _).alloc _
  have hR : Blk (((w.alloc (.cells #[.slice (some ⟨w.heap.size + 1 + 1, 0, none⟩) 4 4, .int .i64 0, .int .i64 2] 28)).alloc (.cells #[.int .i64 97, .int .i64 97] 74)).alloc (.cells #[.int .i64 3, .int .i64 1, .int .i64 0, .int .i64 0, .slice none 0 0, .int .i64 1, .int .i64 2, .int .i64 0, .int .i64 0, .slice (some ⟨w.heap.size + 1, 0, none⟩) 1 1, .int .i64 3, .int .i64 3, .int .i64 0, .int .i64 1, .slice none 0 0, .int .i64 5, .int .i64 0, .int .i64 0, .int .i64 0, .slice none 0 0] 57)) (w.heap.size + 1) 74 [.int .i64 97, .int .i64 97] := by
    have := (Blk.new (w.alloc (.cells #[.slice (some ⟨w.heap.size + 1 + 1, 0, none⟩) 4 4, .int .i64 0, .int .i64 2] 28)) 74 [.int .i64 97, .int .i64 97]).alloc (.cells #[.int .i64 3, .int .i64 1, .int .i64 0, .int .i64 0, .slice none 0 0, .int .i64 1, .int .i64 2, .int .i64 0, .int .i64 0, .slice (some ⟨w.heap.size + 1, 0, none⟩) 1 1, .int .i64 3, .int .i64 3, .int .i64 0, .int .i64 1, .slice none 0 0, .int .i64 5, .int .i64 0, .int .i64 0, .int .i64 0, .slice none 0 0] 57)
    rw [h1] at this
    exact this
  have hI : Blk (((w.alloc (.cells #[.slice (some ⟨w.heap.size + 1 + 1, 0, none⟩) 4 4, .int .i64 0, .int .i64 2] 28)).alloc (.cells #[.int .i64 97, .int .i64 97] 74)).alloc (.cells #[.int .i64 3, .int .i64 1, .int .i64 0, .int .i64 0, .slice none 0 0, .int .i64 1, .int .i64 2, .int .i64 0, .int .i64 0, .slice (some ⟨w.heap.size + 1, 0, none⟩) 1 1, .int .i64 3, .int .i64 3, .int .i64 0, .int .i64 1, .slice none 0 0, .int .i64 5, .int .i64 0, .int .i64 0, .int .i64 0, .slice none 0 0] 57)) (w.heap.size + 1 + 1) 57 (insRow (letterL (w.heap.size + 1))) := by
    have := Blk.new ((w.alloc (.cells #[.slice (some ⟨w.heap.size + 1 + 1, 0, none⟩) 4 4, .int .i64 0, .int .i64 2] 28)).alloc (.cells #[.int .i64 97, .int .i64 97] 74)) 57 (insRow (letterL (w.heap.size + 1)))
    rw [h2] at this
    exact this
  have hb : Below w.heap.size w (((w.alloc (.cells #[.slice (some ⟨w.heap.size + 1 + 1, 0, none⟩) 4 4, .int .i64 0, .int .i64 2] 28)).alloc (.cells #[.int .i64 97, .int .i64 97] 74)).alloc (.cells #[.int .i64 3, .int .i64 1, .int .i64 0, .int .i64 0, .slice none 0 0, .int .i64 1, .int .i64 2, .int .i64 0, .int .i64 0, .slice (some ⟨w.heap.size + 1, 0, none⟩) 1 1, .int .i64 3, .int .i64 3, .int .i64 0, .int .i64 1, .slice none 0 0, .int .i64 5, .int .i64 0, .int .i64 0, .int .i64 0, .slice none 0 0] 57)) := (((Below.refl _ _).alloc (Nat.le_refl _) _).alloc (by simp) _).alloc (by simp; omega) _
  obtain ⟨d, hu, hd⟩ := und_prog
  refine bodyPost_ret (results_cell_row rfl _ _ w.heap.size _ #[.slice (some ⟨w.heap.size + 1 + 1, 0, none⟩) 4 4, .int .i64 0, .int .i64 2] d rfl hP hu hd size_prog) rfl ?_
  have hri := hI.reads (size := 5) (n := 4) (c := 4) (by omega) (by omega) (by simp [insRow_length, letterL])
  rw [List.take_of_length_le (by simp [insRow_length, letterL])] at hri
  have hrr := hR.reads (size := 2) (n := 1) (c := 1) (by omega) (by omega) (by simp)
  refine ⟨rfl, hb, hri, fun v hv => ?_⟩
  simp only [letterL, List.mem_cons, List.not_mem_nil, or_false] at hv
  rcases hv with rfl | rfl | rfl | rfl
  · exact ⟨Reads.none_, fun _ => rfl⟩
  · exact ⟨hrr, fun h => by cases h⟩
  · exact ⟨Reads.none_, fun _ => rfl⟩
  · exact ⟨Reads.none_, fun _ => rfl⟩

theorem letter_ex (w : World) :
    Calls Try.prog 12 #[] w fun e w' => ∃ g r, e = .returned (.agg #[.slice (some ⟨g, 0, none⟩) 4 4, .int .i64 0, .int .i64 2]) ∧ Below w.heap.size w w' ∧ ReadsP w' w'.heap.size (some ⟨g, 0, none⟩) 4 4 (letterL r) :=
  (letter_any w).mono fun _ _ ⟨h1, h2, h3⟩ => ⟨_, _, h1, h2, h3⟩

set_option maxRecDepth 100000 in
set_option maxHeartbeats 4000000 in
theorem awake12_any (w : World) :
    Calls Try.prog 6 #[] w fun e w' => e = .returned (.bool true) ∧ Below w.heap.size w w' := by
  have hT : Blk (w.alloc (.cells #[.int .i64 97, .int .i64 98, .int .i64 97] 3)) w.heap.size 3 (([97, 98, 97] : List Int).map (Value.int .i64)) := Blk.new w _ _
  have hb0 : Below w.heap.size w (w.alloc (.cells #[.int .i64 97, .int .i64 98, .int .i64 97] 3)) := (Below.refl _ _).alloc (Nat.le_refl _) _
  have HT := Lib.hid hT
  have HB0 := Lib.hid hb0
  clear hT hb0
  have HL := Lib.hid letter_ex
  have HT2 := Lib.hid (fun (u : World) (hb : Below (w.alloc (.cells #[.int .i64 97, .int .i64 98, .int .i64 97] 3)).heap.size (w.alloc (.cells #[.int .i64 97, .int .i64 98, .int .i64 97] 3)) u) => show Reads u u.heap.size 1 (some ⟨w.heap.size, 0, none⟩) 3 3 (([97, 98, 97] : List Int).map (Value.int .i64)) from ((HT.out.below hb HT.out.lt).reads (size := 1) (n := 3) (c := 3) (by omega) (by omega) (by simp)))
  go_enter Try.func6, Try.ntmps6
  go_wp2_with (first
    | (go_at_call 8
       have hc := run_any _ _ 4 4 3 3 _ [97, 98, 97] 0 2 1 true _ HR5.out (HT2.out _ HBW5.out)
       rw [letter_ins, letter_run2] at hc
       refine hc.mono ?_
       rintro e w6 ⟨cv6, rfl, ho6, hb6⟩
       have HBW6 := Lib.hid (HBW5.out.trans (hb6.mono HBW5.out.size))
       have HF6 := Lib.hid ((HF5.out.below hb6 HF5.out.lt))
       have HO6 := Lib.hid (own_below HO5.out hb6)
       obtain ⟨A6, n6, c6, hcv⟩ : ∃ A n c, cv6 = .slice A n c := by obtain ⟨A, c, h⟩ := own_shape ho6; exact ⟨_, _, _, h⟩
       subst hcv
       have f0 : w6.cell? ⟨w3.heap.size, 0, none⟩ = some (.bool true) := HF6.out.cell 0
       have f1 : w6.cell? ⟨w3.heap.size, 1, none⟩ = some (.slice (some ⟨g3, 0, none⟩) 2 c3) := HF6.out.cell 1
       have f3 : w6.cell? ⟨w3.heap.size, 3, none⟩ = some (.int .i64 6) := HF6.out.cell 3
       have f4 := HF6.out.lt
       have o0 : w6.cell? ⟨g3, 0, none⟩ = some (.int .i64 2) := HO6.out.cellAt 0 (by omega)
       have o1 : w6.cell? ⟨g3, 1, none⟩ = some (.int .i64 3) := HO6.out.cellAt 1 (by omega)
       have o2 : g3 < w6.heap.size := (HO6.out.lt g3 rfl).2
       simp only [Option.isSome_none, Option.elim_none])
    | (go_at_call 12
       have HFx := HF3
       refine (HL.out _).mono ?_
       rintro e w5 ⟨gg5, rr5, rfl, hb5, hr5⟩
       have HBW5 := Lib.hid ((HBW3.out.trans (((Below.refl _ _).alloc (Nat.le_refl _) _).mono HBW3.out.size)).trans (hb5.mono (by have := HBW3.out.size; simp at this ⊢; omega)))
       have HF5 := Lib.hid (HF3.out.below hb5 HF3.out.lt)
       have HO5 := Lib.hid (own_below (own_below HO3.out ((Below.refl _ _).alloc (Nat.le_refl _) _)) hb5)
       have HR5 := Lib.hid hr5
       clear hb5 hr5
       simp only [])
    | (go_at_call 8
       have hc := run_any _ _ 4 4 3 3 _ [97, 98, 97] 0 2 1 false _ HR2.out (HT2.out _ HBW2.out)
       rw [letter_ins, letter_run1] at hc
       refine hc.mono ?_
       rintro e w3 ⟨cv3, rfl, ho3, hb3⟩
       have ho3 : w3.ownsRow w2.heap.size 3 1 cv3 2 [.int .i64 2, .int .i64 3] := ho3
       obtain ⟨A3, c3, hcv⟩ := own_shape ho3
       subst hcv
       obtain ⟨g3, hA3, _, _, _⟩ := own_form ho3 (by omega)
       subst hA3
       have HO3 := Lib.hid ho3
       have HBW3 := Lib.hid (HBW2.out.trans (hb3.mono HBW2.out.size))
       have HF3 := Lib.hid (Blk.new w3 38 [.bool true, .slice (some ⟨g3, 0, none⟩) 2 c3, .int .i64 0, .int .i64 6])
       clear hb3 ho3
       simp only [Option.isSome_some, Option.elim_some])
    | (go_at_call 12
       refine (HL.out _).mono ?_
       rintro e w2 ⟨gg2, rr2, rfl, hb2, hr2⟩
       have HBW2 := Lib.hid hb2
       have HR2 := Lib.hid hr2
       clear hb2 hr2
       simp only []))
  go_ret
  exact ⟨rfl, (HB0.out.trans (HBW6.out.mono HB0.out.size)).alloc (by have h1 := HB0.out.size; have h2 := HBW6.out.size; omega) _⟩
end Go.Proofs.Ytclbbfkgdhmheaa
