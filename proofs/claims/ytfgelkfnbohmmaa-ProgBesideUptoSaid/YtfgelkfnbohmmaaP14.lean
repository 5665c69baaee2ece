/- prog.Join: words for memory: rows of programs. -/
import Derived.Test.YtfgelkfnbohmmaaP03
import Derived.Test.YtfgelkfnbohmmaaP06
import Derived.Test.YtfgelkfnbohmmaaP13
namespace Go.Proofs.Ytfgelkfnbohmmaa
open Go.RowKit Go.Proofs.Ytfgelkfnbohmmaa.Mach
/-- A program and where it lies. -/
structure PgV where
  A : Option Addr
  n : Nat
  c : Nat
  start : Int
  caps : Int
  L : List InV
def PgV.prg (v : PgV) : Prg := ⟨insL v.L, v.start, v.caps⟩
def pgVals (v : PgV) : List Value := [.slice v.A v.n v.c, .int .i64 v.start, .int .i64 v.caps]
def pgRow (l : List PgV) : List Value := l.flatMap pgVals
def prgs (l : List PgV) : List Prg := l.map PgV.prg
theorem pgRow_length (l : List PgV) : (pgRow l).length = l.length * 3 := by
  induction l with
  | nil => rfl
  | cons v l ih => simp only [pgRow, List.flatMap_cons, List.length_append, List.length_cons] at *; rw [ih, show (pgVals v).length = 3 from rfl]; omega
theorem pgRow_get : ∀ (l : List PgV) (j q : Nat) (v : PgV), l[j]? = some v → q < 3 → (pgRow l)[j * 3 + q]? = (pgVals v)[q]?
  | [], j, q, v, h, _ => by simp at h
  | u :: l, 0, q, v, h, hq => by
    simp only [List.getElem?_cons_zero, Option.some.injEq] at h
    subst h
    simp only [pgRow, List.flatMap_cons, Nat.zero_mul, Nat.zero_add]
    exact List.getElem?_append_left (by simpa [pgVals] using hq)
  | u :: l, j + 1, q, v, h, hq => by
    have := pgRow_get l j q v (by simpa using h) hq
    have e1 : (j + 1) * 3 + q = 3 + (j * 3 + q) := by omega
    rw [e1]
    simp only [pgRow, List.flatMap_cons]
    rw [List.getElem?_append_right (by simp [pgVals]), ← this]
    simp [pgVals, pgRow]
/-- A row of programs reads, each reads. -/
def ReadsG (w : World) (B : Nat) (A : Option Addr) (n c : Nat) (l : List PgV) : Prop := Reads w B 3 A n c (pgRow l) ∧ ∀ v ∈ l, ReadsP w B v.A v.n v.c v.L
section
variable {w w' : World} {B B' n c : Nat} {A : Option Addr} {l : List PgV}
theorem ReadsG.below (h : ReadsG w B A n c l) (hb : Below B w w') : ReadsG w' B A n c l := ⟨h.1.below hb, fun v hv => (h.2 v hv).below hb⟩
theorem ReadsG.more (h : ReadsG w B A n c l) (hB : B ≤ B') : ReadsG w B' A n c l := ⟨h.1.more hB, fun v hv => (h.2 v hv).more hB⟩
theorem ReadsG.len (h : ReadsG w B A n c l) : l.length = n := by have := h.1.len; rw [pgRow_length] at this; omega
theorem ReadsG.cells {b off : Nat} (h : ReadsG w B (some ⟨b, off, none⟩) n c l) {j : Nat} {v : PgV} (hv : l[j]? = some v) :
    w.cell? ⟨b, off + j * 3, none⟩ = some (.slice v.A v.n v.c) ∧ w.cell? ⟨b, off + j * 3 + 1, none⟩ = some (.int .i64 v.start) ∧ w.cell? ⟨b, off + j * 3 + 2, none⟩ = some (.int .i64 v.caps) := by
  have g : ∀ q u, q < 3 → (pgVals v)[q]? = some u → w.cell? ⟨b, off + j * 3 + q, none⟩ = some u := fun q u hq hu => by
    rw [Nat.add_assoc]
    exact h.1.cellAt ((pgRow_get l j q v hv hq).trans hu)
  exact ⟨g 0 _ (by omega) rfl, g 1 _ (by omega) rfl, g 2 _ (by omega) rfl⟩
end
theorem PgV.len {w : World} {B : Nat} {v : PgV} (h : ReadsP w B v.A v.n v.c v.L) : v.prg.insts.length = v.n := by unfold PgV.prg; simp only []; rw [insL, List.length_map]; exact h.len
theorem sumJ_snoc : ∀ (a : List Prg) (p : Prg), sumJ (a ++ [p]) = sumJ a + p.insts.length
  | [], p => by simp [sumJ]
  | q :: a, p => by rw [List.cons_append, sumJ, sumJ_snoc a p, sumJ]; omega
theorem chk_zero {p : Prg} : chkE p = 0 ↔ checkB p = true := by unfold chkE; split <;> simp_all
/-- What is made: the whole's block ob, its row, the starts. -/
structure JSt (w0 : World) (ob : Nat) (z : Int) (V SV : Value) (LJ : List InV) (cp : Int) (ss : List Nat) (w : World) : Prop where
  below : Below w0.heap.size w0 w
  lo : w0.heap.size < ob
  res : Blk w w0.heap.size 30 [.slice none 0 0, .int .i64 0, .int .i64 0]
  blk : Blk w ob 30 [V, .int .i64 z, .int .i64 cp]
  own : w.ownsRow w0.heap.size 54 5 V LJ.length (insRow LJ)
  els : ∀ u ∈ LJ, w.ownsRow w0.heap.size 52 2 (.slice u.A u.n u.c) u.n (flat u.I.rng)
  st : w.ownsRow w0.heap.size 3 1 SV ss.length (ss.map fun s : Nat => Value.int .i64 (s : Int))
section
variable {w0 w w' : World} {ob : Nat} {z : Int} {V V' SV SV' : Value} {LJ : List InV} {cp : Int} {ss : List Nat}
theorem own_far {base base' : Nat} {e e' : TypeId} {size size' : Nat} {u v : Value} {n m : Nat} {xs ys : List Value} (hu : w.ownsRow base e size u n xs) (hv : w.ownsRow base' e' size' v m ys) (hne : e ≠ e') (hg : w.grownBy w' v.ownBlock) : w'.ownsRow base e size u n xs :=
  own_kept hu (Kept.of_grown' hg) fun b hb hm => by
    rcases apart_types hu hv hne with h | h
    · rw [h] at hb; cases hb
    · exact h (by rw [hb]; simpa [eq_comm] using hm)
theorem own_set {base : Nat} {e t : TypeId} {size : Nat} {u : Value} {n g i : Nat} {xs cs : List Value} {x : Value} (hu : w.ownsRow base e size u n xs) (hg : Blk w g t cs) (hne : e ≠ t) : (w.setCell ⟨g, i, none⟩ x).ownsRow base e size u n xs :=
  own_kept hu (Kept.setCell _ _) fun b hb hm => by
    rw [List.mem_singleton] at hm
    exact blk_apart hu hg hne (by rw [hb, hm])
theorem blk_far {base : Nat} {e t : TypeId} {size : Nat} {v : Value} {n g : Nat} {ys cs : List Value} (hb : Blk w g t cs) (hv : w.ownsRow base e size v n ys) (hne : e ≠ t) (hg : w.grownBy w' v.ownBlock) : Blk w' g t cs :=
  hb.kept (Kept.of_grown' hg) fun hm => blk_apart hv hb hne (by simpa [eq_comm] using hm)
theorem JSt.later (h : JSt w0 ob z V SV LJ cp ss w) (hb : Below w.heap.size w w') : JSt w0 ob z V SV LJ cp ss w' :=
  ⟨h.below.trans (hb.mono h.below.size), h.lo, h.res.below hb h.res.lt, h.blk.below hb h.blk.lt, own_below h.own hb, fun u hu => own_below (h.els u hu) hb, own_below h.st hb⟩
theorem JSt.drewN (h : JSt w0 ob z V SV LJ cp ss w) (k : Nat) : JSt w0 ob z V SV LJ cp ss (w.drewN k) :=
  ⟨bdrewN h.below k, h.lo, h.res.drewN k, h.blk.drewN k, own_drewN h.own k, fun u hu => own_drewN (h.els u hu) k, own_drewN h.st k⟩
theorem grown_below {row : Option Nat} (h : Below w0.heap.size w0 w) (hg : w.grownBy w' row) (hr : ∀ g, row = some g → w0.heap.size ≤ g) : Below w0.heap.size w0 w' :=
  Below.kept h (Kept.of_grown' hg) (fun g hg => hr g (by simpa using hg)) h.size
theorem JSt.caps (h : JSt w0 ob z V SV LJ cp ss w) (cp' : Int) : JSt w0 ob z V SV LJ cp' ss (w.setCell ⟨ob, 2, none⟩ (.int .i64 cp')) :=
  ⟨Below.kept h.below (Kept.setCell _ _) (by intro g hg; rw [List.mem_singleton] at hg; rw [hg]; have := h.lo; simp only []; omega) h.below.size, h.lo, h.res.far (p := ⟨ob, 2, none⟩) (by have := h.lo; simp only []; omega) _, h.blk.set_ 2 _,
    own_set h.own h.blk (by decide), fun u hu => own_set (h.els u hu) h.blk (by decide), own_set h.st h.blk (by decide)⟩
theorem JSt.starts (h : JSt w0 ob z V SV LJ cp ss w) (hg : w.grownBy w' SV.ownBlock) {s : Nat} (ho : w'.ownsRow w0.heap.size 3 1 SV' (ss.length + 1) ((ss ++ [s]).map fun s : Nat => Value.int .i64 (s : Int))) : JSt w0 ob z V SV' LJ cp (ss ++ [s]) w' :=
  ⟨grown_below h.below hg fun g hg' => (h.st.lt g hg').1, h.lo, blk_far h.res h.st (by decide) hg, blk_far h.blk h.st (by decide) hg, own_far h.own h.st (by decide) hg, fun u hu => own_far (h.els u hu) h.st (by decide) hg, by rw [List.length_append, List.length_singleton]; exact ho⟩
theorem JSt.push (h : JSt w0 ob z V SV LJ cp ss w) (hg : w.grownBy w' V.ownBlock) {u : InV} (hu : w.ownsRow w0.heap.size 52 2 (.slice u.A u.n u.c) u.n (flat u.I.rng)) (ho : w'.ownsRow w0.heap.size 54 5 V' (LJ.length + 1) (insRow (LJ ++ [u]))) : JSt w0 ob z V' SV (LJ ++ [u]) cp ss (w'.setCell ⟨ob, 0, none⟩ V') := by
  have hb2 := blk_far h.blk h.own (by decide) hg
  refine ⟨Below.kept (grown_below h.below hg fun g hg' => (h.own.lt g hg').1) (Kept.setCell _ _) (by intro g hg; rw [List.mem_singleton] at hg; rw [hg]; have := h.lo; simp only []; omega) (Nat.le_trans h.below.size hg.size), h.lo, (blk_far h.res h.own (by decide) hg).far (p := ⟨ob, 0, none⟩) (by have := h.lo; simp only []; omega) _, hb2.set_ 0 _, ?_, fun x hx => ?_, own_set (own_far h.st h.own (by decide) hg) hb2 (by decide)⟩
  · rw [List.length_append, List.length_singleton]; exact own_set ho hb2 (by decide)
  · rcases List.mem_append.1 hx with hx | hx
    · exact own_set (own_far (h.els x hx) h.own (by decide) hg) hb2 (by decide)
    · rw [List.mem_singleton] at hx
      subst hx
      exact own_set (own_far hu h.own (by decide) hg) hb2 (by decide)
theorem JSt.start (h : JSt w0 ob z V SV LJ cp ss w) (z' : Int) : JSt w0 ob z' V SV LJ cp ss (w.setCell ⟨ob, 1, none⟩ (.int .i64 z')) :=
  ⟨Below.kept h.below (Kept.setCell _ _) (by intro g hg; rw [List.mem_singleton] at hg; rw [hg]; have := h.lo; simp only []; omega) h.below.size, h.lo, h.res.far (p := ⟨ob, 1, none⟩) (by have := h.lo; simp only []; omega) _, h.blk.set_ 1 _,
    own_set h.own h.blk (by decide), fun u hu => own_set (h.els u hu) h.blk (by decide), own_set h.st h.blk (by decide)⟩
theorem grown_set (w : World) (g a : Nat) (x : Value) : w.grownBy (w.setCell ⟨g, a, none⟩ x) (some g) :=
  ⟨rfl, rfl, rfl, by simp [World.setCell], fun k _ hk => Below.heap_setCell w _ x k (fun e => hk (by rw [e]))⟩
theorem grown_tr {w1 w2 w3 : World} {g : Nat} (h : w1.grownBy w2 (some g)) (h' : w2.grownBy w3 (some g)) : w1.grownBy w3 (some g) :=
  ⟨h'.os.trans h.os, h'.tape.trans h.tape, h'.output.trans h.output, Nat.le_trans h.size h'.size, fun k hk hn => (h'.block k (Nat.lt_of_lt_of_le hk h.size) hn).trans (h.block k hk hn)⟩
theorem grown_set5 (w : World) (g a b c d e : Nat) (x0 x1 x2 x3 x4 : Value) : w.grownBy (((((w.setCell ⟨g, a, none⟩ x0).setCell ⟨g, b, none⟩ x1).setCell ⟨g, c, none⟩ x2).setCell ⟨g, d, none⟩ x3).setCell ⟨g, e, none⟩ x4) (some g) :=
  grown_tr (grown_tr (grown_tr (grown_tr (grown_set _ _ _ _) (grown_set _ _ _ _)) (grown_set _ _ _ _)) (grown_set _ _ _ _)) (grown_set _ _ _ _)
theorem JSt.alt {g c q : Nat} {a : InV} (h : JSt w0 ob z (.slice (some ⟨g, 0, none⟩) LJ.length c) SV LJ cp ss w) (ha : LJ[q]? = some a) (x y : Int) : JSt w0 ob z (.slice (some ⟨g, 0, none⟩) (LJ.set q ⟨⟨2, x, y, 0, []⟩, none, 0, 0⟩).length c) SV (LJ.set q ⟨⟨2, x, y, 0, []⟩, none, 0, 0⟩) cp ss
    (((((w.setCell ⟨g, q * 5, none⟩ (.int .i64 2)).setCell ⟨g, q * 5 + 1, none⟩ (.int .i64 x)).setCell ⟨g, q * 5 + 2, none⟩ (.int .i64 y)).setCell ⟨g, q * 5 + 3, none⟩ (.int .i64 0)).setCell ⟨g, q * 5 + 4, none⟩ (.slice none 0 0)) := by
  have hg := grown_set5 w g (q * 5) (q * 5 + 1) (q * 5 + 2) (q * 5 + 3) (q * 5 + 4) (.int .i64 2) (.int .i64 x) (.int .i64 y) (.int .i64 0) (.slice none 0 0)
  have hg2 : w.grownBy (((((w.setCell ⟨g, q * 5, none⟩ (.int .i64 2)).setCell ⟨g, q * 5 + 1, none⟩ (.int .i64 x)).setCell ⟨g, q * 5 + 2, none⟩ (.int .i64 y)).setCell ⟨g, q * 5 + 3, none⟩ (.int .i64 0)).setCell ⟨g, q * 5 + 4, none⟩ (.slice none 0 0)) (Value.slice (some ⟨g, 0, none⟩) LJ.length c).ownBlock := hg
  refine ⟨grown_below h.below hg2 fun k hk => (h.own.lt k hk).1, h.lo, blk_far h.res h.own (by decide) hg2, blk_far (by rw [List.length_set]; exact h.blk) h.own (by decide) hg2, ?_, fun v hv => ?_, own_far h.st h.own (by decide) hg2⟩
  · rw [List.length_set]
    exact own_set5 h.own ha rfl
  · rcases List.mem_or_eq_of_mem_set hv with hv | rfl
    · exact own_far (h.els v hv) h.own (by decide) hg2
    · exact World.ownsRow_nil _ _ _ _
end
theorem capsJ_snoc : ∀ (a : List Prg) (p : Prg) (c : Int), capsJ (a ++ [p]) c = max (capsJ a c) p.caps
  | [], p, c => rfl
  | q :: a, p, c => by rw [List.cons_append, capsJ, capsJ_snoc a p, capsJ]
theorem startsJ_snoc : ∀ (a : List Prg) (p : Prg) (o : Nat), startsJ (a ++ [p]) o = startsJ a o ++ [o + sumJ a + p.start.toNat]
  | [], p, o => rfl
  | q :: a, p, o => by rw [List.cons_append, startsJ, startsJ_snoc a p, startsJ, List.cons_append, sumJ]; congr 3; omega
theorem movsJ_snoc : ∀ (a : List Prg) (p : Prg) (o wh : Nat), movsJ (a ++ [p]) o wh = movsJ a o wh ++ p.insts.map (mvI (o + sumJ a) ((wh + a.length : Nat) : Int))
  | [], p, o, wh => by simp [movsJ, sumJ]
  | q :: a, p, o, wh => by
    rw [List.cons_append, movsJ, movsJ_snoc a p, movsJ, List.append_assoc, sumJ, List.length_cons, show o + q.insts.length + sumJ a = o + (q.insts.length + sumJ a) from by omega, show wh + 1 + a.length = wh + (a.length + 1) from by omega]
theorem own_cellJ {w : World} {base : Nat} {e : TypeId} {size n g c : Nat} {xs : List Value} {j : Nat} {u : Value} (h : w.ownsRow base e size (.slice (some ⟨g, 0, none⟩) n c) n xs) (hu : xs[j]? = some u) : w.cell? ⟨g, j, none⟩ = some u := by
  have := (Reads.of_own h).cellAt hu
  rwa [Nat.zero_add] at this
theorem own_blkJ {w : World} {base : Nat} {e : TypeId} {size n g c : Nat} {xs : List Value} (h : w.ownsRow base e size (.slice (some ⟨g, 0, none⟩) n c) n xs) : ∃ cs, Blk w g e cs := by
  rcases h.2 with ⟨h0, _⟩ | ⟨g', cap, cur, hv, hb, hh, hnc, hcm, hcs, ht⟩
  · cases h0
  · simp only [Value.slice.injEq, Option.some.injEq, Addr.mk.injEq, and_true] at hv
    obtain ⟨rfl, _, rfl⟩ := hv
    exact ⟨cur.toList, by unfold Blk; rw [Array.toArray_toList]; exact hh⟩
theorem own_someJ {w : World} {base : Nat} {e : TypeId} {size n c : Nat} {A : Option Addr} {xs : List Value} (h : w.ownsRow base e size (.slice A n c) n xs) (hn : 0 < n) : ∃ g, A = some ⟨g, 0, none⟩ := by
  rcases h.2 with ⟨_, h0⟩ | ⟨g', cap, cur, hv, _⟩
  · omega
  · simp only [Value.slice.injEq] at hv
    exact ⟨g', hv.1⟩
theorem own_noneJ {w : World} {base : Nat} {e : TypeId} {size n c : Nat} {A : Option Addr} {xs : List Value} (h : w.ownsRow base e size (.slice A n c) n xs) (ha : A = none) : c = 0 := by
  rcases h.2 with ⟨h0, _⟩ | ⟨g', cap, cur, hv, _⟩
  · simp only [Value.slice.injEq] at h0; exact h0.2.2
  · simp only [Value.slice.injEq] at hv
    rw [ha] at hv; exact absurd hv.1 (by simp)
theorem JSt.reads {w0 w : World} {ob : Nat} {z : Int} {VA : Option Addr} {Vc : Nat} {SV : Value} {LJ : List InV} {cp : Int} {ss : List Nat} (h : JSt w0 ob z (.slice VA LJ.length Vc) SV LJ cp ss w) : ReadsP w w.heap.size VA LJ.length Vc LJ :=
  ⟨Reads.of_own h.own, fun v hv => ⟨Reads.of_own (h.els v hv), own_noneJ (h.els v hv)⟩⟩
theorem altsJ_len : ∀ (l : List Nat) (i : Nat), (altsJ l i).length = l.length - 1
  | [], _ => rfl
  | [s], _ => rfl
  | s :: t :: l, i => by
    rw [altsJ, if_neg (by simp), List.length_cons, altsJ_len (t :: l)]
    simp
theorem altsJ_get : ∀ (l : List Nat) (i q s : Nat), l[q]? = some s → q + 1 < l.length → (altsJ l i)[q]? = some ⟨2, (s : Nat), (if q + 2 = l.length then (l.getD (q + 1) 0 : Nat) else (i + q + 1 : Nat)), 0, []⟩
  | [], _, _, _, h, _ => by simp at h
  | [t], _, q, _, _, h2 => by simp at h2
  | t :: u :: l, i, 0, s, h, _ => by
    simp only [List.getElem?_cons_zero, Option.some.injEq] at h
    subst h
    rw [altsJ, if_neg (by simp), List.getElem?_cons_zero]
    by_cases hl : l.length = 0
    · rw [if_pos (by simp [hl]), if_pos (by simp [hl])]; simp
    · rw [if_neg (by simp only [List.length_cons]; omega), if_neg (by simp only [List.length_cons]; omega)]
  | t :: u :: l, i, q + 1, s, h, h2 => by
    rw [altsJ, if_neg (by simp), List.getElem?_cons_succ, altsJ_get (u :: l) (i + 1) q s (by simpa using h) (by simpa using h2)]
    by_cases hl : q + 2 = (u :: l).length
    · rw [if_pos hl, if_pos (by rw [List.length_cons]; omega)]; simp [List.getD]
    · rw [if_neg hl, if_neg (by rw [List.length_cons]; omega)]
      congr 2
      omega
theorem join_eqJ {l : List Prg} {m : Nat} (h : l.length = m + 1) : joinP l = ⟨altsJ (startsJ l m) 0 ++ movsJ l m 0, if m = 0 then ((startsJ l m).headD 0 : Nat) else 0, capsJ l 0⟩ := by
  unfold joinP
  rw [h, Nat.add_sub_cancel]
  by_cases hm : m = 0
  · subst hm; rfl
  · rw [if_neg (by omega), if_neg hm]
end Go.Proofs.Ytfgelkfnbohmmaa
