/- heronlaw12.Lent: a program in memory of its own, with marks behind each list. -/
import Derived.Test.YteiggbbljgkloaaQSameF
import Derived.Test.YteiggbbljgkloaaQLentT
import Derived.Test.YteiggbbljgkloaaQStack
namespace Go.Proofs.Yteiggbbljgkloaa
open Go.RowKit Go.Proofs.Yteiggbbljgkloaa.Mach

def zIns : List Value := [.int .i64 0, .int .i64 0, .int .i64 0, .int .i64 0, .slice none 0 0]
def zRow : Nat → List Value
  | 0 => []
  | k + 1 => zIns ++ zRow k
theorem zRow_length (k : Nat) : (zRow k).length = k * 5 := by
  induction k with
  | zero => rfl
  | succ k ih => rw [zRow, List.length_append, ih]; simp [zIns]; omega
theorem zRow_snoc (k : Nat) : zRow (k + 1) = zRow k ++ zIns := by
  induction k with
  | zero => simp [zRow]
  | succ k ih =>
    show zIns ++ zRow (k + 1) = (zIns ++ zRow k) ++ zIns
    rw [ih, List.append_assoc]
theorem made_ins (k : Nat) : (madeCells #[.int .i64 0, .int .i64 0, .int .i64 0, .int .i64 0, .slice none 0 0] (k * 5)).toList = zRow k := by
  induction k with
  | zero => simp [madeCells, zRow]
  | succ k ih =>
    rw [zRow_snoc, ← ih, Nat.succ_mul]
    unfold madeCells
    rw [Array.toList_map, Array.toList_map, Array.toList_range, Array.toList_range, List.range_add, List.map_append]
    congr 1
    simp [zIns, List.range_succ, Nat.add_mod]
theorem made_rng (k : Nat) : (madeCells #[.int .i64 0, .int .i64 0] (k * 2)).toList = flat (List.replicate k (0, 0)) := by
  induction k with
  | zero => simp [madeCells, flat]
  | succ k ih =>
    rw [List.replicate_succ', Nat.succ_mul]
    have : flat (List.replicate k ((0 : Int), (0 : Int)) ++ [(0, 0)]) = flat (List.replicate k (0, 0)) ++ [.int .i64 0, .int .i64 0] := by simp [flat, encR]
    rw [this, ← ih]
    unfold madeCells
    rw [Array.toList_map, Array.toList_map, Array.toList_range, Array.toList_range, List.range_add, List.map_append]
    congr 1
    simp [List.range_succ, Nat.add_mod]
/-- An instruction whose ranges are lent. -/
def LentV (w : World) (B : Nat) (v : InV) : Prop :=
  v.I.rng.length = v.n ∧ v.c = v.n + 1 ∧ ∃ r, v.A = some ⟨r, 0, none⟩ ∧ B ≤ r ∧ Blk w r 55 (flat v.I.rng ++ [.int .i64 (-77), .int .i64 0])
theorem LentV.below {w w' : World} {B : Nat} {v : InV} (h : LentV w B v) (hb : Below w.heap.size w w') : LentV w' B v := by
  obtain ⟨h1, h2, r, h3, h4, h5⟩ := h
  exact ⟨h1, h2, r, h3, h4, h5.below hb h5.lt⟩
theorem LentV.kept {w w' : World} {B g : Nat} {t : TypeId} {cs : List Value} {v : InV} (h : LentV w B v) (k : Kept w w' [g]) (hg : Blk w g t cs) (ht : 55 ≠ t) : LentV w' B v := by
  obtain ⟨h1, h2, r, h3, h4, h5⟩ := h
  exact ⟨h1, h2, r, h3, h4, h5.kept k (by rw [List.mem_singleton]; exact h5.ne_ hg ht)⟩
theorem insRow_snoc (L : List InV) (v : InV) : insRow (L ++ [v]) = insRow L ++ insVals v.I v.A v.n v.c := by simp [insRow]
theorem row_set5 (L : List InV) (ys : List Value) (a0 a1 a2 a3 a4 b0 b1 b2 b3 b4 : Value) :
    (((((insRow L ++ (b0 :: b1 :: b2 :: b3 :: b4 :: ys)).set (L.length * 5) a0).set (L.length * 5 + 1) a1).set (L.length * 5 + 2) a2).set (L.length * 5 + 3) a3).set (L.length * 5 + 4) a4 = insRow L ++ (a0 :: a1 :: a2 :: a3 :: a4 :: ys) := by
  have hl := insRow_length L
  rw [List.set_append_right _ _ (by omega), List.set_append_right _ _ (by omega), List.set_append_right _ _ (by omega), List.set_append_right _ _ (by omega), List.set_append_right _ _ (by omega), hl]
  simp
theorem row_at (L : List InV) (ys : List Value) (q : Nat) : (insRow L ++ ys)[L.length * 5 + q]? = ys[q]? := by
  rw [List.getElem?_append_right (by rw [insRow_length]; omega), insRow_length, Nat.add_sub_cancel_left]
theorem info_inst : (Try.prog.info? 53).map (fun i => (i.zero, i.size, i.bytes)) = some (some (.agg #[.int .i64 0, .int .i64 0, .int .i64 0, .int .i64 0, .slice none 0 0]), 5, 56) := by kernel_rfl
theorem info_range : (Try.prog.info? 55).map (fun i => (i.zero, i.size, i.bytes)) = some (some (.agg #[.int .i64 0, .int .i64 0]), 2, 16) := by kernel_rfl
theorem size_range : (Try.prog.info? 55).map (·.size) = some 2 := by kernel_rfl
/-- One result, a struct's cells. -/
theorem results_cell_row {P : Program} {fn : Func} {p : Tmp} {ty : TypeId} (h : fn.results = #[.cell p ty]) (tmps : Array Value) (w : World) (g : Nat) (t : TypeId) (cs : Array Value) (d : TypeDesc)
    (hp : tmps.getD p undef = .pointer (some ⟨g, 0, none⟩)) (hg : Blk w g t cs.toList)
    (hu : P.underlying ty = some d) (hd : isRow d = true) (hi : (P.info? ty).map (·.size) = some cs.size) :
    (results fn tmps).run P w = .ok (.agg cs) w := by
  have hp' : tmps[p]?.getD undef = .pointer (some ⟨g, 0, none⟩) := by simpa using hp
  simp [results, h, asAddr, hp', Result.andThen, run_loadVar_row w g t ty cs (0, 0) d hg hu (by cases d <;> first | rfl | (simp [isRow] at hd)) hi]
theorem size_prog : (Try.prog.info? 24).map (·.size) = some 3 := by kernel_rfl
theorem und_prog : ∃ d, Try.prog.underlying 24 = some d ∧ isRow d = true := ⟨_, Try.underlying24, rfl⟩
end Go.Proofs.Yteiggbbljgkloaa
