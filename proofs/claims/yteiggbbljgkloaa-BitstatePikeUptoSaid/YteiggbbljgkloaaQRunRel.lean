/- bitstate.Run: what stands in memory. -/
import Derived.Test.YteiggbbljgkloaaQMachOk
import Derived.Test.YteiggbbljgkloaaQBitmap
import Derived.Test.YteiggbbljgkloaaQStack
import Derived.Test.YteiggbbljgkloaaQMemIns
import Derived.Test.YteiggbbljgkloaaQSetM
import Derived.Test.YteiggbbljgkloaaQLookAt
namespace Go.Proofs.Yteiggbbljgkloaa
open Go.RowKit Go.Proofs.Yteiggbbljgkloaa.Mach

/-- The blocks of a run: the program's box, what is found, the map, the captures, the stack. -/
structure Blocks where
  P : Nat
  R : Nat
  M : Nat
  C : Nat
  S : Nat
structure Blocks.From (b : Blocks) (B : Nat) : Prop where
  P : B ≤ b.P
  R : B ≤ b.R
  M : B ≤ b.M
  C : B ≤ b.C
  S : B ≤ b.S
/-- What stands in memory when the machine stands at s. -/
structure Rn (w0 : World) (b : Blocks) (A : Option Addr) (n c : Nat) (start caps : Int) (V : Value) (ws : List Nat) (s : MS) (w : World) : Prop where
  below : Below w0.heap.size w0 w
  lo : b.From w0.heap.size
  prog : Blk w b.P 24 [.slice A n c, .int .i64 start, .int .i64 caps]
  found : Blk w b.R 30 [.bool false, .slice none 0 0, .int .i64 0, .int .i64 0]
  met : Blk w b.M 65 (ws.map fun x : Nat => .int .u64 (x : Int))
  bits : Bits ws s.met
  capt : Blk w b.C 3 (s.caps.map (Value.int .i64))
  stk : Stk w w0.heap.size b.S V s.todo
section
variable {w0 w w' : World} {b : Blocks} {A : Option Addr} {n c : Nat} {start caps : Int} {V V' : Value} {ws : List Nat} {s : MS}
theorem Rn.drewN (h : Rn w0 b A n c start caps V ws s w) (k : Nat) : Rn w0 b A n c start caps V ws s (w.drewN k) :=
  ⟨bdrewN h.below k, h.lo, h.prog.drewN k, h.found.drewN k, h.met.drewN k, h.bits, h.capt.drewN k, h.stk.drewN k⟩
theorem Rn.later (h : Rn w0 b A n c start caps V ws s w) (hb : Below w.heap.size w w') : Rn w0 b A n c start caps V ws s w' :=
  ⟨h.below.trans (hb.mono h.below.size), h.lo, h.prog.below hb h.prog.lt, h.found.below hb h.found.lt, h.met.below hb h.met.lt, h.bits, h.capt.below hb h.capt.lt, h.stk.below hb⟩
theorem Rn.drew (h : Rn w0 b A n c start caps V ws s w) : Rn w0 b A n c start caps V ws s w.drew := h.drewN 1
/-- The stack alone has turned. -/
theorem Rn.stacked (h : Rn w0 b A n c start caps V ws s w) (k : Kept w w' (b.S :: V.ownBlock.toList)) {l : List Job} (hs : Stk w' w0.heap.size b.S V' l) : Rn w0 b A n c start caps V' ws { s with todo := l } w' := by
  obtain ⟨m, hb⟩ := h.stk.blk
  have far : ∀ {g : Nat} {t : TypeId} {cs : List Value}, Blk w g t cs → 59 ≠ t → 62 ≠ t → g ∉ (b.S :: V.ownBlock.toList) := fun hg h1 h2 hm => by
    simp only [List.mem_cons, Option.mem_toList] at hm
    rcases hm with e | e
    · exact hb.ne_ hg h1 e.symm
    · exact blk_apart h.stk.own hg h2 e.symm
  refine ⟨Below.kept h.below k ?_ h.below.size, h.lo, h.prog.kept k (far h.prog (by decide) (by decide)), h.found.kept k (far h.found (by decide) (by decide)), h.met.kept k (far h.met (by decide) (by decide)), h.bits, h.capt.kept k (far h.capt (by decide) (by decide)), hs⟩
  intro g hg
  simp only [List.mem_cons, Option.mem_toList] at hg
  rcases hg with rfl | e
  · exact h.lo.S
  · exact (h.stk.own.lt g e).1
/-- A capture is written. -/
theorem Rn.captured (h : Rn w0 b A n c start caps V ws s w) (q : Nat) (x : Int) : Rn w0 b A n c start caps V ws { s with caps := s.caps.set q x } (w.setCell ⟨b.C, q, none⟩ (.int .i64 x)) := by
  have ne : ∀ {g : Nat} {t : TypeId} {cs : List Value}, Blk w g t cs → t ≠ 3 → g ≠ b.C := fun hg h1 => hg.ne_ h.capt h1
  obtain ⟨m, hb⟩ := h.stk.blk
  have k := Kept.setCell (w := w) ⟨b.C, q, none⟩ (.int .i64 x)
  refine ⟨Below.kept h.below k (by intro g hg; rw [List.mem_singleton] at hg; rw [hg]; exact h.lo.C) h.below.size, h.lo, h.prog.far (ne h.prog (by decide)) _, h.found.far (ne h.found (by decide)) _, h.met.far (ne h.met (by decide)) _, h.bits, ?_, ?_⟩
  · have := h.capt.set_ q (.int .i64 x)
    rw [← List.map_set] at this
    exact this
  · refine h.stk.kept k (by rw [List.mem_singleton]; exact ne hb (by decide)) ?_
    intro g hg hm
    rw [List.mem_singleton] at hm
    exact blk_apart h.stk.own h.capt (by decide) (by rw [hg, hm])
/-- A pair is marked. -/
theorem Rn.marked (h : Rn w0 b A n c start caps V ws s w) {q x : Nat} (hq : q < s.met.length) (hx : ws[q / 64]? = some x) :
    Rn w0 b A n c start caps V (ws.set (q / 64) (x ||| 2 ^ (q % 64))) { s with met := s.met.set q true } (w.setCell ⟨b.M, q / 64, none⟩ (.int .u64 ((x ||| 2 ^ (q % 64) : Nat) : Int))) := by
  have ne : ∀ {g : Nat} {t : TypeId} {cs : List Value}, Blk w g t cs → t ≠ 65 → g ≠ b.M := fun hg h1 => hg.ne_ h.met h1
  obtain ⟨m, hb⟩ := h.stk.blk
  have k := Kept.setCell (w := w) ⟨b.M, q / 64, none⟩ (.int .u64 ((x ||| 2 ^ (q % 64) : Nat) : Int))
  refine ⟨Below.kept h.below k (by intro g hg; rw [List.mem_singleton] at hg; rw [hg]; exact h.lo.M) h.below.size, h.lo, h.prog.far (ne h.prog (by decide)) _, h.found.far (ne h.found (by decide)) _, ?_, h.bits.set_ hq hx, h.capt.far (ne h.capt (by decide)) _, ?_⟩
  · have := h.met.set_ (q / 64) (.int .u64 ((x ||| 2 ^ (q % 64) : Nat) : Int))
    rw [show (ws.map fun x : Nat => Value.int .u64 (x : Int)).set (q / 64) (.int .u64 ((x ||| 2 ^ (q % 64) : Nat) : Int)) = (ws.set (q / 64) (x ||| 2 ^ (q % 64))).map fun x : Nat => Value.int .u64 (x : Int) from (List.map_set ..).symm] at this
    exact this
  · refine h.stk.kept k (by rw [List.mem_singleton]; exact ne hb (by decide)) ?_
    intro g hg hm
    rw [List.mem_singleton] at hm
    exact blk_apart h.stk.own h.met (by decide) (by rw [hg, hm])
/-- What the run counts, and whether it has found, does not stand there. -/
theorem Rn.counted (h : Rn w0 b A n c start caps V ws s w) (k : Nat) (f : Option Int) : Rn w0 b A n c start caps V ws { s with steps := k, fin := f } w :=
  ⟨h.below, h.lo, h.prog, h.found, h.met, h.bits, h.capt, h.stk⟩
end
end Go.Proofs.Yteiggbbljgkloaa
