/- pike: what stands in memory. -/
import Derived.Test.YteiggbbljgkloaaQSetM
import Derived.Test.YteiggbbljgkloaaQLock
import Derived.Test.YteiggbbljgkloaaQMemIns
import Derived.Test.YteiggbbljgkloaaQThings
namespace Go.Proofs.Yteiggbbljgkloaa
open Go.RowKit Go.Proofs.Yteiggbbljgkloaa.Mach

/-- A thread: the instruction, the block of its captures, the captures. -/
structure TV where
  i : Nat
  g : Nat
  c : List Int
def TV.vals (cl : Nat) (v : TV) : List Value := [.int .i64 (v.i : Int), .slice (some ⟨v.g, 0, none⟩) cl cl]
def thsRow (cl : Nat) (l : List TV) : List Value := l.flatMap (TV.vals cl)
def prs (l : List TV) : List (Nat × List Int) := l.map fun v => (v.i, v.c)
theorem thsRow_nil (cl : Nat) : thsRow cl [] = [] := rfl
theorem thsRow_cons (cl : Nat) (v : TV) (l : List TV) : thsRow cl (v :: l) = TV.vals cl v ++ thsRow cl l := rfl
theorem thsRow_append (cl : Nat) (a b : List TV) : thsRow cl (a ++ b) = thsRow cl a ++ thsRow cl b := by unfold thsRow; rw [List.flatMap_append]
theorem thsRow_length (cl : Nat) (l : List TV) : (thsRow cl l).length = l.length * 2 := by
  induction l with
  | nil => rfl
  | cons v l ih => rw [thsRow_cons, List.length_append, ih, List.length_cons, show (TV.vals cl v).length = 2 from rfl]; omega
theorem thsRow_get : ∀ (cl : Nat) (l : List TV) (j q : Nat) (v : TV), l[j]? = some v → q < 2 → (thsRow cl l)[j * 2 + q]? = (TV.vals cl v)[q]?
  | cl, [], j, q, v, h, _ => by simp at h
  | cl, u :: l, 0, q, v, h, hq => by
    simp only [List.getElem?_cons_zero, Option.some.injEq] at h
    subst h
    rw [thsRow_cons, Nat.zero_mul, Nat.zero_add]
    exact List.getElem?_append_left (by simpa [TV.vals] using hq)
  | cl, u :: l, j + 1, q, v, h, hq => by
    have := thsRow_get cl l j q v (by simpa using h) hq
    have e1 : (j + 1) * 2 + q = 2 + (j * 2 + q) := by omega
    rw [e1, thsRow_cons, List.getElem?_append_right (by simp [TV.vals]), ← this]
    simp [TV.vals]
/-- What is found. -/
structure Fd where
  g : Nat
  c : List Int
  a : Int
def Fd.res (d : Fd) : List Int × Int := (d.c, d.a)
/-- The numbers of a run that stay. -/
structure Px where
  w0 : World
  rb : Nat
  sb : Nat
  ab : Nat
  A : Option Addr
  n : Nat
  c : Nat
  start : Int
  caps : Int
  At : Option Addr
  nt : Nat
  ct : Nat
  cl : Nat
def Px.B (x : Px) : Nat := x.w0.heap.size
def fd0 (f : Option Fd) : Value := .bool f.isSome
def fd1 (cl : Nat) (f : Option Fd) : Value := f.elim (.slice none 0 0) fun d => .slice (some ⟨d.g, 0, none⟩) cl cl
def fd2 (f : Option Fd) : Value := .int .i64 (f.elim 0 fun d => d.a)
def Px.cells (x : Px) (k : Nat) (bits : Int) (NV : Value) (f : Option Fd) (st : Int) : List Value :=
  [.slice x.A x.n x.c, .int .i64 x.start, .int .i64 x.caps, .slice x.At x.nt x.ct, .int .i64 (k : Int), .int .i64 bits, .pointer (some ⟨x.sb, 0, none⟩), NV, fd0 f, fd1 x.cl f, fd2 f, .int .i64 0, .int .i64 st]
/-- Captures that are only read. -/
structure Cok (x : Px) (b : Option Nat) (w : World) (g : Nat) (c : List Int) : Prop where
  blk : Blk w g 3 (c.map (Value.int .i64))
  len : c.length = x.cl
  ab : g ≠ x.ab
  far : some g ≠ b
def Tok (x : Px) (b : Option Nat) (w : World) (v : TV) : Prop := v.i < x.n ∧ Cok x b w v.g v.c
structure Pk (x : Px) (LV NV : Value) (met : List Nat) (nxt : List TV) (k : Nat) (bits : Int) (f : Option Fd) (st : Int) (w : World) : Prop where
  below : Below x.B x.w0 w
  lo : x.B ≤ x.rb
  run : Blk w x.rb 74 (x.cells k bits NV f st)
  met : SetM w x.B x.sb x.ab LV x.n met
  own : w.ownsRow x.B 95 2 NV nxt.length (thsRow x.cl nxt)
  ok : ∀ v ∈ nxt, Tok x LV.ownBlock w v
  fnd : ∀ d, f = some d → Cok x LV.ownBlock w d.g d.c
/-- A block that holds no captures. -/
def Wr (x : Px) (LV : Value) (w : World) (g : Nat) : Prop := g = x.ab ∨ some g = LV.ownBlock ∨ w.heap.size ≤ g ∨ ∃ t cs, t ≠ 3 ∧ Blk w g t cs
theorem own_blk {w : World} {base : Nat} {e : TypeId} {size : Nat} {v : Value} {n : Nat} {xs : List Value} (h : w.ownsRow base e size v n xs) (b : Nat) (hb : v.ownBlock = some b) : ∃ cs, Blk w b e cs := by
  rcases h.2 with ⟨rfl, _⟩ | ⟨g, c, cur, rfl, h1, h2, _⟩
  · cases hb
  · simp only [Value.ownBlock, Option.some.injEq] at hb
    subst hb
    exact ⟨cur.toList, h2⟩
section
variable {x : Px} {LV NV LV' NV' LF LF' : Value} {met met' : List Nat} {nxt left : List TV} {k : Nat} {bits st st' : Int} {f : Option Fd} {w w' : World} {L : List Nat} {b b' : Option Nat} {g : Nat} {c : List Int} {v : TV}
theorem Cok.kept (h : Cok x LV.ownBlock w g c) (k : Kept w w' L) (hL : ∀ q ∈ L, Wr x LV w q) : Cok x LV.ownBlock w' g c := by
  refine ⟨h.blk.kept k fun hm => ?_, h.len, h.ab, h.far⟩
  rcases hL _ hm with e | e | e | ⟨t, cs, ht, hb⟩
  · exact h.ab e
  · exact h.far e
  · have := h.blk.lt; omega
  · exact h.blk.ne_ hb (fun e => ht e.symm) rfl
theorem Cok.turn (h : Cok x b w g c) (hb : b' = b ∨ ∃ q, w.heap.size ≤ q ∧ b' = some q) : Cok x b' w g c := by
  refine ⟨h.blk, h.len, h.ab, ?_⟩
  rcases hb with e | ⟨q, hq, e⟩
  · rw [e]; exact h.far
  · rw [e]; intro h2; have := h.blk.lt; simp only [Option.some.injEq] at h2; omega
theorem Tok.kept (h : Tok x LV.ownBlock w v) (k : Kept w w' L) (hL : ∀ q ∈ L, Wr x LV w q) : Tok x LV.ownBlock w' v := ⟨h.1, h.2.kept k hL⟩
theorem Tok.turn (h : Tok x b w v) (hb : b' = b ∨ ∃ q, w.heap.size ≤ q ∧ b' = some q) : Tok x b' w v := ⟨h.1, h.2.turn hb⟩
/-- .. both: the list of the set has turned, too. -/
theorem Cok.go (h : Cok x LV.ownBlock w g c) (k : Kept w w' L) (hL : ∀ q ∈ L, Wr x LV w q) (hb : LV'.ownBlock = LV.ownBlock ∨ ∃ q, w.heap.size ≤ q ∧ LV'.ownBlock = some q) : Cok x LV'.ownBlock w' g c := by
  have h1 := h.turn hb
  exact ⟨(h.kept k hL).blk, h.len, h.ab, h1.far⟩
theorem Tok.go (h : Tok x LV.ownBlock w v) (k : Kept w w' L) (hL : ∀ q ∈ L, Wr x LV w q) (hb : LV'.ownBlock = LV.ownBlock ∨ ∃ q, w.heap.size ≤ q ∧ LV'.ownBlock = some q) : Tok x LV'.ownBlock w' v := ⟨h.1, h.2.go k hL hb⟩
theorem Pk.wrR (h : Pk x LV NV met nxt k bits f st w) : Wr x LV w x.rb := .inr (.inr (.inr ⟨_, _, by decide, h.run⟩))
theorem Pk.wrS (h : Pk x LV NV met nxt k bits f st w) : Wr x LV w x.sb := .inr (.inr (.inr ⟨_, _, by decide, h.met.blk⟩))
theorem Pk.wrA (_ : Pk x LV NV met nxt k bits f st w) : Wr x LV w x.ab := .inl rfl
theorem Pk.wrL (_ : Pk x LV NV met nxt k bits f st w) : ∀ g ∈ LV.ownBlock.toList, Wr x LV w g := fun g hg => .inr (.inl (by simpa [eq_comm] using hg))
theorem wrT {V : Value} {n : Nat} {xs : List Value} {base : Nat} (h : w.ownsRow base 95 2 V n xs) : ∀ g ∈ V.ownBlock.toList, Wr x LV w g := fun g hg => by
  obtain ⟨cs, hb⟩ := own_blk h g (by simpa using hg)
  exact .inr (.inr (.inr ⟨_, _, by decide, hb⟩))
/-- How the blocks lie. -/
theorem Pk.far (h : Pk x LV NV met nxt k bits f st w) : x.rb ≠ x.sb ∧ x.rb ≠ x.ab ∧ x.sb ≠ x.ab ∧ some x.rb ≠ LV.ownBlock ∧ some x.rb ≠ NV.ownBlock ∧ some x.sb ≠ LV.ownBlock ∧ some x.sb ≠ NV.ownBlock ∧ some x.ab ≠ NV.ownBlock ∧ (∀ q, NV.ownBlock = some q → LV.ownBlock ≠ some q) := by
  obtain ⟨ats, h1, h2, h3⟩ := h.met.at_
  refine ⟨h.run.ne_ h.met.blk (by decide), h.run.ne_ h2 (by decide), h.met.blk.ne_ h2 (by decide), blk_apart h.met.own h.run (by decide), blk_apart h.own h.run (by decide), blk_apart h.met.own h.met.blk (by decide), blk_apart h.own h.met.blk (by decide), blk_apart h.own h2 (by decide), ?_⟩
  intro q hq hl
  obtain ⟨cs, hb⟩ := own_blk h.own q hq
  exact blk_apart h.met.own hb (by decide) hl.symm
theorem Pk.kept (h : Pk x LV NV met nxt k bits f st w) (kk : Kept w w' L) (hL : ∀ q ∈ L, Wr x LV w q) (hB : ∀ q ∈ L, x.B ≤ q) (h1 : x.rb ∉ L) (h2 : x.sb ∉ L) (h3 : x.ab ∉ L) (h4 : ∀ q, LV.ownBlock = some q → q ∉ L) (h5 : ∀ q, NV.ownBlock = some q → q ∉ L) : Pk x LV NV met nxt k bits f st w' :=
  ⟨Below.kept h.below kk hB h.below.size, h.lo, h.run.kept kk h1, h.met.kept kk h2 h3 h4, own_kept h.own kk h5, fun v hv => (h.ok v hv).kept kk hL, fun d hd => (h.fnd d hd).kept kk hL⟩
theorem Pk.later (h : Pk x LV NV met nxt k bits f st w) (hb : Below w.heap.size w w') : Pk x LV NV met nxt k bits f st w' :=
  h.kept (L := []) (Kept.of_below hb) (by simp) (by simp) (by simp) (by simp) (by simp) (by simp) (by simp)
theorem Pk.drewN (h : Pk x LV NV met nxt k bits f st w) (n : Nat) : Pk x LV NV met nxt k bits f st (w.drewN n) :=
  h.kept (L := []) (Kept.drewN n) (by simp) (by simp) (by simp) (by simp) (by simp) (by simp) (by simp)
theorem Pk.drew (h : Pk x LV NV met nxt k bits f st w) : Pk x LV NV met nxt k bits f st w.drew := h.drewN 1
theorem Pk.alloc (h : Pk x LV NV met nxt k bits f st w) (o : Obj) : Pk x LV NV met nxt k bits f st (w.alloc o) := h.later ((Below.refl _ _).alloc (Nat.le_refl _) _)
theorem Pk.cells (h : Pk x LV NV met nxt k bits f st w) :
    w.cell? ⟨x.rb, 0, none⟩ = some (.slice x.A x.n x.c) ∧ w.cell? ⟨x.rb, 1, none⟩ = some (.int .i64 x.start) ∧ w.cell? ⟨x.rb, 2, none⟩ = some (.int .i64 x.caps) ∧ w.cell? ⟨x.rb, 3, none⟩ = some (.slice x.At x.nt x.ct) ∧
    w.cell? ⟨x.rb, 4, none⟩ = some (.int .i64 (k : Int)) ∧ w.cell? ⟨x.rb, 5, none⟩ = some (.int .i64 bits) ∧ w.cell? ⟨x.rb, 6, none⟩ = some (.pointer (some ⟨x.sb, 0, none⟩)) ∧ w.cell? ⟨x.rb, 7, none⟩ = some NV ∧
    w.cell? ⟨x.rb, 8, none⟩ = some (.bool f.isSome) ∧ w.cell? ⟨x.rb, 9, none⟩ = some (fd1 x.cl f) ∧ w.cell? ⟨x.rb, 10, none⟩ = some (fd2 f) ∧ w.cell? ⟨x.rb, 11, none⟩ = some (.int .i64 0) ∧ w.cell? ⟨x.rb, 12, none⟩ = some (.int .i64 st) :=
  ⟨h.run.cell 0, h.run.cell 1, h.run.cell 2, h.run.cell 3, h.run.cell 4, h.run.cell 5, h.run.cell 6, h.run.cell 7, h.run.cell 8, h.run.cell 9, h.run.cell 10, h.run.cell 11, h.run.cell 12⟩
/-- The run's own cells turn. -/
theorem Pk.set_ (h : Pk x LV NV met nxt k bits f st w) (i : Nat) (u : Value) {k2 : Nat} {bits2 st2 : Int} (he : (x.cells k bits NV f st).set i u = x.cells k2 bits2 NV f st2) : Pk x LV NV met nxt k2 bits2 f st2 (w.setCell ⟨x.rb, i, none⟩ u) := by
  obtain ⟨f1, f2, f3, f4, f5, f6, f7, f8, f9⟩ := h.far
  have kk : Kept w (w.setCell ⟨x.rb, i, none⟩ u) [x.rb] := Kept.setCell _ _
  have hL : ∀ q ∈ [x.rb], Wr x LV w q := by intro q hq; rw [List.mem_singleton] at hq; rw [hq]; exact h.wrR
  refine ⟨Below.kept h.below kk (by intro g hg; rw [List.mem_singleton] at hg; rw [hg]; exact h.lo) h.below.size, h.lo, ?_, h.met.kept kk (by simpa using f1.symm) (by simpa using f2.symm) (fun q hq hm => by rw [List.mem_singleton] at hm; exact f4 (by rw [hq, hm])), own_kept h.own kk (fun q hq hm => by rw [List.mem_singleton] at hm; exact f5 (by rw [hq, hm])), fun v hv => (h.ok v hv).kept kk hL, fun d hd => (h.fnd d hd).kept kk hL⟩
  have := h.run.set_ i u
  rw [he] at this
  exact this
theorem Pk.placed (h : Pk x LV NV met nxt k bits f st w) {z : Int} {k2 : Nat} (hz : z = (k2 : Int)) : Pk x LV NV met nxt k2 bits f st (w.setCell ⟨x.rb, 4, none⟩ (.int .i64 z)) := h.set_ 4 _ (by rw [hz]; rfl)
theorem Pk.bitted (h : Pk x LV NV met nxt k bits f st w) (z : Int) : Pk x LV NV met nxt k z f st (w.setCell ⟨x.rb, 5, none⟩ (.int .i64 z)) := h.set_ 5 _ rfl
theorem Pk.stepped (h : Pk x LV NV met nxt k bits f st w) (z : Int) : Pk x LV NV met nxt k bits f z (w.setCell ⟨x.rb, 12, none⟩ (.int .i64 z)) := h.set_ 12 _ rfl
/-- A match: what is found turns. -/
theorem Pk.found (h : Pk x LV NV met nxt k bits f st w) (d : Fd) (hd : Cok x LV.ownBlock w d.g d.c) :
    Pk x LV NV met nxt k bits (some d) st ((((w.setCell ⟨x.rb, 8, none⟩ (.bool true)).setCell ⟨x.rb, 9, none⟩ (.slice (some ⟨d.g, 0, none⟩) x.cl x.cl)).setCell ⟨x.rb, 10, none⟩ (.int .i64 d.a)).setCell ⟨x.rb, 11, none⟩ (.int .i64 0)) := by
  obtain ⟨f1, f2, f3, f4, f5, f6, f7, f8, f9⟩ := h.far
  have kk : Kept w ((((w.setCell ⟨x.rb, 8, none⟩ (.bool true)).setCell ⟨x.rb, 9, none⟩ (.slice (some ⟨d.g, 0, none⟩) x.cl x.cl)).setCell ⟨x.rb, 10, none⟩ (.int .i64 d.a)).setCell ⟨x.rb, 11, none⟩ (.int .i64 0)) [x.rb] :=
    ((((Kept.setCell (w := w) ⟨x.rb, 8, none⟩ (.bool true)).trans (Kept.setCell ⟨x.rb, 9, none⟩ _)).trans (Kept.setCell ⟨x.rb, 10, none⟩ _)).trans (Kept.setCell ⟨x.rb, 11, none⟩ _)).more (by intro k hk; simp at hk ⊢; exact .inl hk)
  have hL : ∀ q ∈ [x.rb], Wr x LV w q := by intro q hq; rw [List.mem_singleton] at hq; rw [hq]; exact h.wrR
  refine ⟨Below.kept h.below kk (by intro g hg; rw [List.mem_singleton] at hg; rw [hg]; exact h.lo) h.below.size, h.lo, ?_, h.met.kept kk (by simpa using f1.symm) (by simpa using f2.symm) (fun q hq hm => by rw [List.mem_singleton] at hm; exact f4 (by rw [hq, hm])), own_kept h.own kk (fun q hq hm => by rw [List.mem_singleton] at hm; exact f5 (by rw [hq, hm])), fun v hv => (h.ok v hv).kept kk hL, fun d' hd' => by cases hd'; exact hd.kept kk hL⟩
  exact (((h.run.set_ 8 (.bool true)).set_ 9 (.slice (some ⟨d.g, 0, none⟩) x.cl x.cl)).set_ 10 (.int .i64 d.a)).set_ 11 (.int .i64 0)
/-- The set of those that were met has turned. -/
theorem Pk.added (h : Pk x LV NV met nxt k bits f st w) (kk : Kept w w' (x.sb :: x.ab :: LV.ownBlock.toList)) (hs : SetM w' x.B x.sb x.ab LV' x.n met') (hb : LV'.ownBlock = LV.ownBlock ∨ ∃ q, w.heap.size ≤ q ∧ LV'.ownBlock = some q) : Pk x LV' NV met' nxt k bits f st w' := by
  obtain ⟨f1, f2, f3, f4, f5, f6, f7, f8, f9⟩ := h.far
  have hL : ∀ q ∈ x.sb :: x.ab :: LV.ownBlock.toList, Wr x LV w q := by
    intro q hq
    simp only [List.mem_cons] at hq
    rcases hq with rfl | rfl | hq
    · exact h.wrS
    · exact h.wrA
    · exact h.wrL q hq
  refine ⟨Below.kept h.below kk ?_ h.below.size, h.lo, h.run.kept kk ?_, hs, own_kept h.own kk ?_, fun v hv => (h.ok v hv).go kk hL hb, fun d hd => (h.fnd d hd).go kk hL hb⟩
  · intro g hg
    simp only [List.mem_cons, Option.mem_toList] at hg
    rcases hg with rfl | rfl | hg
    · exact h.met.lo.1
    · exact h.met.lo.2
    · exact (h.met.own.lt g hg).1
  · simp only [List.mem_cons, Option.mem_toList, not_or]
    exact ⟨f1, f2, fun e => f4 e.symm⟩
  · intro q hq hm
    simp only [List.mem_cons, Option.mem_toList] at hm
    rcases hm with rfl | rfl | hm
    · exact f7 hq.symm
    · exact f8 hq.symm
    · exact f9 q hq hm
/-- The threads of the next place have turned. -/
theorem Pk.turned (h : Pk x LV NV met nxt k bits f st w) (kk : Kept w w' NV.ownBlock.toList) {l : List TV} (ho : w'.ownsRow x.B 95 2 NV' l.length (thsRow x.cl l)) (hl : ∀ v ∈ l, Tok x LV.ownBlock w v) :
    Pk x LV NV' met l k bits f st (w'.setCell ⟨x.rb, 7, none⟩ NV') := by
  obtain ⟨f1, f2, f3, f4, f5, f6, f7, f8, f9⟩ := h.far
  have k2 : Kept w (w'.setCell ⟨x.rb, 7, none⟩ NV') (x.rb :: NV.ownBlock.toList) := (kk.trans (Kept.setCell ⟨x.rb, 7, none⟩ NV')).more (by intro k hk; simp at hk ⊢; rcases hk with hk | hk; exact .inl (.inr hk); exact .inl (.inl hk))
  have hL : ∀ q ∈ x.rb :: NV.ownBlock.toList, Wr x LV w q := by
    intro q hq
    simp only [List.mem_cons] at hq
    rcases hq with rfl | hq
    · exact h.wrR
    · exact wrT h.own q hq
  have n1 : x.rb ∉ NV.ownBlock.toList := fun hm => f5 (by simpa [eq_comm] using hm)
  refine ⟨Below.kept h.below k2 ?_ h.below.size, h.lo, (h.run.kept kk n1).set_ 7 NV', h.met.kept k2 ?_ ?_ ?_, own_kept ho (Kept.setCell _ _) (fun q hq hm => ?_), fun v hv => (hl v hv).kept k2 hL, fun d hd => (h.fnd d hd).kept k2 hL⟩
  · intro g hg
    simp only [List.mem_cons, Option.mem_toList] at hg
    rcases hg with rfl | hg
    · exact h.lo
    · exact (h.own.lt g hg).1
  · simp only [List.mem_cons, Option.mem_toList, not_or]
    exact ⟨f1.symm, fun e => f7 e.symm⟩
  · simp only [List.mem_cons, Option.mem_toList, not_or]
    exact ⟨f2.symm, fun e => f8 e.symm⟩
  · intro q hq hm
    simp only [List.mem_cons, Option.mem_toList] at hm
    rcases hm with rfl | hm
    · exact f4 hq.symm
    · exact f9 q hm hq
  · rw [List.mem_singleton] at hm
    subst hm
    exact blk_apart ho (h.run.kept kk n1) (by decide) hq.symm
end
theorem info_thread : (Try.prog.info? 95).map (fun i => (i.zero, i.size, i.bytes)) = some (some (.agg #[.int .i64 0, .slice none 0 0]), 2, 32) := by kernel_rfl
end Go.Proofs.Yteiggbbljgkloaa
