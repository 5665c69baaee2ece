/- heronref12.Machine: what stands in memory. -/
import Derived.Test.YteiggbbljgkloaaQMachOk
import Derived.Test.YteiggbbljgkloaaQMemIns
import Derived.Test.YteiggbbljgkloaaQStack
import Derived.Test.YteiggbbljgkloaaQRefLook
import Derived.Test.YteiggbbljgkloaaQRefRight
import Derived.BigQuiet
import Derived.Deep.QuietTactic
import Derived.Deep.RegionHeldLaw
import Derived.Deep.AppendLies
import Derived.WalkMore
namespace Go.Proofs.Yteiggbbljgkloaa
open Go.RowKit Go.Proofs.Yteiggbbljgkloaa.Mach

def thingVals : Job → List Value
  | .pair i k => [.bool false, .int .i64 (i : Int), .int .i64 (k : Int), .int .i64 0, .int .i64 0]
  | .back c old => [.bool true, .int .i64 0, .int .i64 0, .int .i64 (c : Int), .int .i64 old]
theorem thingVals_length (j : Job) : (thingVals j).length = 5 := by cases j <;> rfl
/-- The row of what is still to be done: the top stands last. -/
def thingRow : List Job → List Value
  | [] => []
  | j :: l => thingRow l ++ thingVals j
theorem thingRow_length (l : List Job) : (thingRow l).length = l.length * 5 := by
  induction l with
  | nil => rfl
  | cons j l ih => rw [thingRow, List.length_append, ih, thingVals_length, List.length_cons]; omega
/-- The numbers of a run of the document's machine that stay: the block of the machine, of the map; program and text. -/
structure Mx where
  w0 : World
  mb : Nat
  M : Nat
  A : Option Addr
  n : Nat
  c : Nat
  start : Int
  caps : Int
  At : Option Addr
  nt : Nat
  ct : Nat
  k0 : Nat
  N : Nat
def Mx.cells (x : Mx) (CV : Value) (st wh : Int) (LV : Value) : List Value :=
  [.slice x.A x.n x.c, .int .i64 x.start, .int .i64 x.caps, .slice x.At x.nt x.ct, .int .i64 (x.k0 : Int), .slice (some ⟨x.M, 0, none⟩) x.N x.N, CV, .int .i64 st, .int .i64 wh, LV]
/-- The machine's block and the map. -/
structure Mb (x : Mx) (CV : Value) (st wh : Int) (LV : Value) (met : List Bool) (w : World) : Prop where
  below : Below x.w0.heap.size x.w0 w
  loM : x.w0.heap.size ≤ x.mb
  loN : x.w0.heap.size ≤ x.M
  mach : Blk w x.mb 49 (x.cells CV st wh LV)
  met : Blk w x.M 4 (met.map Value.bool)
/-- .. and the captures and what is still to be done. -/
structure Mn (x : Mx) (C : Nat) (LV : Value) (s : MS) (w : World) : Prop where
  mb : Mb x (.slice (some ⟨C, 0, none⟩) s.caps.length s.caps.length) (s.steps : Int) (s.fin.getD 0) LV s.met w
  loC : x.w0.heap.size ≤ C
  capt : Blk w C 3 (s.caps.map (Value.int .i64))
  own : w.ownsRow x.w0.heap.size 79 5 LV s.todo.length (thingRow s.todo)
section
variable {x : Mx} {C : Nat} {LV LV' CV : Value} {s : MS} {w w' : World} {st wh : Int} {met : List Bool}
theorem Mb.drewN (h : Mb x CV st wh LV met w) (k : Nat) : Mb x CV st wh LV met (w.drewN k) := ⟨bdrewN h.below k, h.loM, h.loN, h.mach.drewN k, h.met.drewN k⟩
theorem Mb.later (h : Mb x CV st wh LV met w) (hb : Below w.heap.size w w') : Mb x CV st wh LV met w' :=
  ⟨h.below.trans (hb.mono h.below.size), h.loM, h.loN, h.mach.below hb h.mach.lt, h.met.below hb h.met.lt⟩
theorem Mn.drewN (h : Mn x C LV s w) (k : Nat) : Mn x C LV s (w.drewN k) := ⟨h.mb.drewN k, h.loC, h.capt.drewN k, own_drewN h.own k⟩
theorem Mn.later (h : Mn x C LV s w) (hb : Below w.heap.size w w') : Mn x C LV s w' := ⟨h.mb.later hb, h.loC, h.capt.below hb h.capt.lt, own_below h.own hb⟩
theorem Mn.alloc (h : Mn x C LV s w) (o : Obj) : Mn x C LV s (w.alloc o) := h.later ((Below.refl _ _).alloc (Nat.le_refl _) _)
/-- The cells of the machine. -/
theorem Mb.cells (h : Mb x CV st wh LV met w) :
    w.cell? ⟨x.mb, 0, none⟩ = some (.slice x.A x.n x.c) ∧ w.cell? ⟨x.mb, 3, none⟩ = some (.slice x.At x.nt x.ct) ∧ w.cell? ⟨x.mb, 4, none⟩ = some (.int .i64 (x.k0 : Int)) ∧
    w.cell? ⟨x.mb, 5, none⟩ = some (.slice (some ⟨x.M, 0, none⟩) x.N x.N) ∧ w.cell? ⟨x.mb, 6, none⟩ = some CV ∧ w.cell? ⟨x.mb, 7, none⟩ = some (.int .i64 st) ∧ w.cell? ⟨x.mb, 8, none⟩ = some (.int .i64 wh) ∧ w.cell? ⟨x.mb, 9, none⟩ = some LV :=
  ⟨h.mach.cell 0, h.mach.cell 3, h.mach.cell 4, h.mach.cell 5, h.mach.cell 6, h.mach.cell 7, h.mach.cell 8, h.mach.cell 9⟩
theorem Mb.ne (h : Mb x CV st wh LV met w) : x.mb ≠ x.M := h.mach.ne_ h.met (by decide)
/-- A pair is marked. -/
theorem Mb.marked (h : Mb x CV st wh LV met w) (q : Nat) : Mb x CV st wh LV (met.set q true) (w.setCell ⟨x.M, q, none⟩ (.bool true)) := by
  refine ⟨Below.kept h.below (Kept.setCell _ _) (by intro g hg; rw [List.mem_singleton] at hg; rw [hg]; exact h.loN) h.below.size, h.loM, h.loN, h.mach.far (p := ⟨x.M, q, none⟩) h.ne _, ?_⟩
  have := h.met.set_ q (.bool true)
  rw [← List.map_set] at this
  exact this
theorem Mb.stepped (h : Mb x CV st wh LV met w) (st' : Int) : Mb x CV st' wh LV met (w.setCell ⟨x.mb, 7, none⟩ (.int .i64 st')) :=
  ⟨Below.kept h.below (Kept.setCell _ _) (by intro g hg; rw [List.mem_singleton] at hg; rw [hg]; exact h.loM) h.below.size, h.loM, h.loN, h.mach.set_ 7 _, h.met.far (p := ⟨x.mb, 7, none⟩) h.ne.symm _⟩
theorem Mb.whiched (h : Mb x CV st wh LV met w) (wh' : Int) : Mb x CV st wh' LV met (w.setCell ⟨x.mb, 8, none⟩ (.int .i64 wh')) :=
  ⟨Below.kept h.below (Kept.setCell _ _) (by intro g hg; rw [List.mem_singleton] at hg; rw [hg]; exact h.loM) h.below.size, h.loM, h.loN, h.mach.set_ 8 _, h.met.far (p := ⟨x.mb, 8, none⟩) h.ne.symm _⟩
theorem Mb.lefted (h : Mb x CV st wh LV met w) (LV' : Value) : Mb x CV st wh LV' met (w.setCell ⟨x.mb, 9, none⟩ LV') :=
  ⟨Below.kept h.below (Kept.setCell _ _) (by intro g hg; rw [List.mem_singleton] at hg; rw [hg]; exact h.loM) h.below.size, h.loM, h.loN, h.mach.set_ 9 _, h.met.far (p := ⟨x.mb, 9, none⟩) h.ne.symm _⟩
theorem Mb.capsed (h : Mb x CV st wh LV met w) (CV' : Value) : Mb x CV' st wh LV met (w.setCell ⟨x.mb, 6, none⟩ CV') :=
  ⟨Below.kept h.below (Kept.setCell _ _) (by intro g hg; rw [List.mem_singleton] at hg; rw [hg]; exact h.loM) h.below.size, h.loM, h.loN, h.mach.set_ 6 _, h.met.far (p := ⟨x.mb, 6, none⟩) h.ne.symm _⟩
/-- Other blocks have turned, not these. -/
theorem Mb.kept {L : List Nat} (h : Mb x CV st wh LV met w) (k : Kept w w' L) (h1 : x.mb ∉ L) (h2 : x.M ∉ L) (h3 : ∀ g ∈ L, x.w0.heap.size ≤ g) : Mb x CV st wh LV met w' :=
  ⟨Below.kept h.below k h3 h.below.size, h.loM, h.loN, h.mach.kept k h1, h.met.kept k h2⟩
theorem Mn.far (h : Mn x C LV s w) : x.mb ≠ C ∧ C ≠ x.M ∧ some x.mb ≠ LV.ownBlock ∧ some x.M ≠ LV.ownBlock ∧ some C ≠ LV.ownBlock :=
  ⟨h.mb.mach.ne_ h.capt (by decide), h.capt.ne_ h.mb.met (by decide), blk_apart h.own h.mb.mach (by decide), blk_apart h.own h.mb.met (by decide), blk_apart h.own h.capt (by decide)⟩
theorem Mn.marked (h : Mn x C LV s w) (q : Nat) : Mn x C LV { s with met := s.met.set q true } (w.setCell ⟨x.M, q, none⟩ (.bool true)) := by
  obtain ⟨f1, f2, f3, f4, f5⟩ := h.far
  exact ⟨h.mb.marked q, h.loC, h.capt.far (p := ⟨x.M, q, none⟩) f2 _, own_kept h.own (Kept.setCell _ _) (fun b hb hm => by rw [List.mem_singleton] at hm; exact f4 (by rw [hb, hm]))⟩
theorem Mn.stepped (h : Mn x C LV s w) (k : Nat) (z : Int) (hz : z = (k : Int)) : Mn x C LV { s with steps := k } (w.setCell ⟨x.mb, 7, none⟩ (.int .i64 z)) := by
  subst hz
  obtain ⟨f1, f2, f3, f4, f5⟩ := h.far
  exact ⟨h.mb.stepped k, h.loC, h.capt.far (p := ⟨x.mb, 7, none⟩) f1.symm _, own_kept h.own (Kept.setCell _ _) (fun b hb hm => by rw [List.mem_singleton] at hm; exact f3 (by rw [hb, hm]))⟩
theorem Mn.whiched (h : Mn x C LV s w) (k : Int) : Mn x C LV { s with fin := some k } (w.setCell ⟨x.mb, 8, none⟩ (.int .i64 k)) := by
  obtain ⟨f1, f2, f3, f4, f5⟩ := h.far
  exact ⟨h.mb.whiched k, h.loC, h.capt.far (p := ⟨x.mb, 8, none⟩) f1.symm _, own_kept h.own (Kept.setCell _ _) (fun b hb hm => by rw [List.mem_singleton] at hm; exact f3 (by rw [hb, hm]))⟩
theorem Mn.captured (h : Mn x C LV s w) (q : Nat) (u : Int) : Mn x C LV { s with caps := s.caps.set q u } (w.setCell ⟨C, q, none⟩ (.int .i64 u)) := by
  obtain ⟨f1, f2, f3, f4, f5⟩ := h.far
  refine ⟨?_, h.loC, ?_, own_kept h.own (Kept.setCell _ _) (fun b hb hm => by rw [List.mem_singleton] at hm; exact f5 (by rw [hb, hm]))⟩
  · have := h.mb.kept (Kept.setCell (w := w) ⟨C, q, none⟩ (.int .i64 u)) (by rw [List.mem_singleton]; exact f1) (by rw [List.mem_singleton]; exact f2.symm) (by intro g hg; rw [List.mem_singleton] at hg; rw [hg]; exact h.loC)
    simpa using this
  · have := h.capt.set_ q (.int .i64 u)
    rw [← List.map_set] at this
    exact this
/-- What is still to be done has turned, and stands in the machine's cell. -/
theorem Mn.turned (h : Mn x C LV s w) (k : Kept w w' LV.ownBlock.toList) {l : List Job} (ho : w'.ownsRow x.w0.heap.size 79 5 LV' l.length (thingRow l)) (hne : some x.mb ≠ LV'.ownBlock) :
    Mn x C LV' { s with todo := l } (w'.setCell ⟨x.mb, 9, none⟩ LV') := by
  obtain ⟨f1, f2, f3, f4, f5⟩ := h.far
  have n3 : x.mb ∉ LV.ownBlock.toList := fun hm => f3 (by simpa [eq_comm] using hm)
  have n4 : x.M ∉ LV.ownBlock.toList := fun hm => f4 (by simpa [eq_comm] using hm)
  have n5 : C ∉ LV.ownBlock.toList := fun hm => f5 (by simpa [eq_comm] using hm)
  have hm := (h.mb.kept k n3 n4 (by intro g hg; exact (h.own.lt g (by simpa using hg)).1)).lefted LV'
  refine ⟨hm, h.loC, (h.capt.kept k n5).far (p := ⟨x.mb, 9, none⟩) f1.symm _, own_kept ho (Kept.setCell _ _) (fun b hb hm => by rw [List.mem_singleton] at hm; exact hne (by rw [hb, hm]))⟩
/-- Things are appended, the row is put into the machine's cell. -/
theorem Mn.pushed (h : Mn x C LV s w) (o : Obj) (hg : (w.alloc o).drew.grownBy w' LV.ownBlock) {l : List Job} (ho : w'.ownsRow x.w0.heap.size 79 5 LV' l.length (thingRow l)) :
    Mn x C LV' { s with todo := l } (w'.setCell ⟨x.mb, 9, none⟩ LV') := by
  have k : Kept w w' LV.ownBlock.toList := (((Kept.alloc (L := []) (w := w) o).trans (Kept.drew (L := []))).trans (Kept.of_grown' hg)).more (by intro k hk; simp at hk ⊢; exact .inl hk)
  refine h.turned k ho ?_
  have n3 : x.mb ∉ LV.ownBlock.toList := fun hm => h.far.2.2.1 (by simpa [eq_comm] using hm)
  exact blk_apart ho (h.mb.mach.kept k n3) (by decide)
end
theorem cell_lt {w : World} {a : Addr} {v : Value} (h : w.cell? a = some v) : a.block < w.heap.size := by
  rcases Nat.lt_or_ge a.block w.heap.size with hlt | hge
  · exact hlt
  · have := Array.getElem?_eq_none hge
    unfold World.cell? at h
    rw [this] at h
    simp at h
theorem info_thing : (Try.prog.info? 79).map (fun i => (i.zero, i.size, i.bytes)) = some (some (.agg #[.bool false, .int .i64 0, .int .i64 0, .int .i64 0, .int .i64 0]), 5, 40) := by kernel_rfl
end Go.Proofs.Yteiggbbljgkloaa
