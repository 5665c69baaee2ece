/- The law's letter. -/
import Derived.Test.YteimpcjafgllpaaQ31
import Derived.Test.YteimpcjafgllpaaQ45
import Derived.Test.YteimpcjafgllpaaQ47
namespace Go.Proofs.Yteimpcjafgllpaa
open Go.RowKit Go.Proofs.Yteimpcjafgllpaa.Tr
/-- A class of one. -/
def letterT (c : Int) : Tr.Tr := .mk 2 [(c, c)] 0 [] 0 0 false 0 ⟨#[]⟩
set_option maxRecDepth 100000 in
set_option maxHeartbeats 1000000 in
theorem letter_any (c : Int) (w : World) :
    Calls Try.prog 16 #[.int .i64 c] w fun e w' => ∃ u : Ta, e = .returned u.val ∧ u.tr = letterT c ∧ RT w' (Fr w.heap.size [] w') u ∧ Below w.heap.size w w' := by
  go_enter Try.func16, Try.ntmps16
  go_wp2_with fail
  have hb := two_below w (.cells #[.int .i64 2, .slice (some ⟨w.heap.size + 1, 0, none⟩) 1 1, .int .i64 0, .slice none 0 0, .int .i64 0, .int .i64 0, .bool false, .int .i64 0, .string ⟨#[]⟩] 25) (.cells #[.int .i64 c, .int .i64 c] 63)
  have h2 := two_blk w (.cells #[.int .i64 2, .slice (some ⟨w.heap.size + 1, 0, none⟩) 1 1, .int .i64 0, .slice none 0 0, .int .i64 0, .int .i64 0, .bool false, .int .i64 0, .string ⟨#[]⟩] 25) 63 [.int .i64 c, .int .i64 c]
  have h1 := (Blk.new w 25 (Ta.mk 2 [(c, c)] (some ⟨w.heap.size + 1, 0, none⟩) 1 0 [] none 0 0 0 false 0 ⟨#[]⟩).vals).alloc (.cells #[.int .i64 c, .int .i64 c] 63)
  refine bodyPost_ret (node_ret rfl _ _ w.heap.size (Ta.mk 2 [(c, c)] (some ⟨w.heap.size + 1, 0, none⟩) 1 0 [] none 0 0 0 false 0 ⟨#[]⟩) rfl h1) rfl ?_
  refine ⟨_, rfl, rfl, RT.of ⟨⟨Nat.le_refl _, by decide, rfl, (fun h => by cases h), fun _ => ⟨w.heap.size + 1, 0, rfl, ⟨by omega, h2.lt, by simp⟩, fun j v hj => ?_⟩⟩, by simp, by simp, by decide⟩ RdA.none_ (by simp), hb⟩
  rw [Nat.zero_add, h2.cell]
  exact hj
theorem aw1 : soundB (repT (letterT 97) 1 2 false) = true := by decide
theorem aw2 : fitsB (repT (letterT 97) 1 2 false) = true := by decide
theorem aw3 : simpleS (repT (letterT 97) 1 2 false) = catT [letterT 97, repT (letterT 97) 0 1 false] := by rfl
theorem aw4 : (reckonS (repT (letterT 97) 1 2 false)).size = 4 := by decide
theorem aw5 : soundB zT.tr = false := by decide
theorem aw_form : formV (repT (letterT 97) 1 2 false) = catT [letterT 97, repT (letterT 97) 0 1 false] := by unfold formV; rw [aw1, aw2, aw3]; rfl
theorem aw_err : errV (repT (letterT 97) 1 2 false) = 0 := by unfold errV; rw [aw1, aw2]; rfl
theorem aw_err0 : errV zT.tr = 50 := by unfold errV; rw [aw5]; rfl
theorem aw_size : sizeV (repT (letterT 97) 1 2 false) = 4 := by unfold sizeV; rw [aw1, aw4]; rfl
/-- A row of nodes that is laid anew. -/
theorem rt_row {w : World} {B : Nat} {us : List Ta} (h : ∀ u ∈ us, RT w (Fr B [] w) u) (hB : B ≤ w.heap.size) (hl : us.length ≤ 1048576) (k mn mx : Int) (z : Bool) :
    RT (w.alloc (.cells (rowT us).toArray 25)) (Fr B [] (w.alloc (.cells (rowT us).toArray 25))) (Ta.mk k [] none 0 0 us (some ⟨w.heap.size, 0, none⟩) us.length mn mx z 0 ⟨#[]⟩) := by
  have hb := Blk.new w 25 (rowT us)
  refine RT.of ⟨RdA.none_, by simp, hl, by decide⟩ ⟨Nat.le_refl _, by omega, rowT_length us, (fun h => by cases h), fun _ => ⟨w.heap.size, 0, rfl, ⟨hB, hb.lt, by simp⟩, fun j v hj => by rw [Nat.zero_add, hb.cell]; exact hj⟩⟩ fun u hu => (h u hu).fr_below ((Below.refl _ _).alloc (Nat.le_refl _) _)
end Go.Proofs.Yteimpcjafgllpaa
