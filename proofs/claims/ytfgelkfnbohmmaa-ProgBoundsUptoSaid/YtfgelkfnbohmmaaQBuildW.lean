/- simplify.simple's closures: words. -/
import Derived.Test.YtfgelkfnbohmmaaQUnf
import Derived.Laws.EntriesVeiled
namespace Go.Proofs.Ytfgelkfnbohmmaa
open Go.RowKit Go.Proofs.Ytfgelkfnbohmmaa.Tr

/-- The cells in which build and each stand. -/
def CEL (bc ec : Nat) (w : World) : Prop := w.cell? ⟨bc, 0, none⟩ = some (.func (Fn.func 65) #[] #[.pointer (some ⟨bc, 0, none⟩), .pointer (some ⟨ec, 0, none⟩)]) ∧ w.cell? ⟨ec, 0, none⟩ = some (.func (Fn.func 64) #[] #[.pointer (some ⟨bc, 0, none⟩)])
theorem CEL.lt {bc ec : Nat} {w : World} (h : CEL bc ec w) : bc < w.heap.size ∧ ec < w.heap.size := ⟨World.block_lt_of_cell? w _ h.1, World.block_lt_of_cell? w _ h.2⟩
theorem CEL.below {bc ec B : Nat} {w w' : World} (h : CEL bc ec w) (hb : Below B w w') (h1 : bc < B) (h2 : ec < B) : CEL bc ec w' :=
  ⟨(hb.cell (p := ⟨bc, 0, none⟩) h1).trans h.1, (hb.cell (p := ⟨ec, 0, none⟩) h2).trans h.2⟩
/-- build gives the simple form, in memory of its own. -/
def BD (t : Ta) : Prop := ∀ (S : Nat → Prop) (w : World) (bc ec : Nat), RT w S t → (∀ b, S b → b < w.heap.size) → CEL bc ec w → allB t.tr = true → size (simpleS t.tr) ≤ 200000 →
    Calls Try.prog 65 #[t.val, .pointer (some ⟨bc, 0, none⟩), .pointer (some ⟨ec, 0, none⟩)] w fun e w' => ∃ u : Ta, e = .returned u.val ∧ u.tr = simpleS t.tr ∧ RT w' (Fr w.heap.size [] w') u ∧ Below w.heap.size w w'
/-- What a row's members put. -/
def putsT (l : List Tr.Tr) : List Tr.Tr := (l.map simpleS).flatMap putT
theorem putsT_append (a b : List Tr.Tr) : putsT (a ++ b) = putsT a ++ putsT b := by unfold putsT; rw [List.map_append, List.flatMap_append]
theorem putsT_one (t : Tr.Tr) : putsT [t] = putT (simpleS t) := by simp [putsT]
theorem take_trs {l : List Ta} {i : Nat} {u : Ta} (hu : l[i]? = some u) : trs (l.take (i + 1)) = trs (l.take i) ++ [u.tr] := by
  rw [List.take_add_one, hu, trs_map, trs_map, List.map_append]; rfl
theorem putsT_le (l : List Ta) (i : Nat) : (putsT (trs (l.take i))).length ≤ (putsT (trs l)).length := by
  have : trs l = trs (l.take i) ++ trs (l.drop i) := by rw [← trs_append, List.take_append_drop]
  rw [this, putsT_append, List.length_append]; omega
/-- What alternatives put. -/
def altsT (l : List Tr.Tr) : List Tr.Tr := (l.map simpleS).flatMap altPut
theorem altsT_append (a b : List Tr.Tr) : altsT (a ++ b) = altsT a ++ altsT b := by unfold altsT; rw [List.map_append, List.flatMap_append]
theorem altsT_one (t : Tr.Tr) : altsT [t] = altPut (simpleS t) := by simp [altsT]
theorem altsT_le (l : List Ta) (i : Nat) : (altsT (trs (l.take i))).length ≤ (altsT (trs l)).length := by
  have : trs l = trs (l.take i) ++ trs (l.drop i) := by rw [← trs_append, List.take_append_drop]
  rw [this, altsT_append, List.length_append]; omega
theorem subs_pos5 {t : Tr.Tr} (h : allB t = true) (hk : t.kind = 5) : 2 ≤ t.subs.length := by
  cases kinds h with
  | cat l hc hs => simp [catT, Tr.kind] at hk
  | empty => simp [emptyT, Tr.kind] at hk
  | cls r hr => simp [Tr.kind] at hk
  | ass a ha => simp [Tr.kind] at hk
  | alt l hc hs => exact hc
  | rep x n m z hx h0 hb hm => simp [repT, Tr.kind] at hk
  | group x i s hx h0 hb hm => simp [groupT, Tr.kind] at hk
end Go.Proofs.Ytfgelkfnbohmmaa
