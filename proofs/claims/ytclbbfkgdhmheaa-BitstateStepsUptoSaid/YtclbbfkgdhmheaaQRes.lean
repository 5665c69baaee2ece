/- A map of bits in words of 64. No program here. -/
import Derived.Test.YtclbbfkgdhmheaaQMemB
import Derived.Laws.Bits64b
import Derived.WalkKit
import Derived.Test.YtclbbfkgdhmheaaQMem
import Derived.Laws.Rows
import Derived.Laws.ResultCell
import Derived.Deep.RegionHeldLaw
import Derived.Deep.AppendLies
import Derived.Handy
import Derived.Test.YtclbbfkgdhmheaaProg
import Derived.Lib.AppendZerosOnto
import Derived.WalkSpells
import Derived.Lib.SliceRun
namespace Go.Proofs.Ytclbbfkgdhmheaa
open Go.RowKit Go.Proofs.Ytclbbfkgdhmheaa.Mach

theorem mask_test (x s : Nat) (hx : x < 18446744073709551616) : (bits .and .u64 ((x : Int) / 2 ^ s) 1 == 1) = x.testBit s := by
  have e : (x : Int) / 2 ^ s = ((x / 2 ^ s : Nat) : Int) := by norm_cast
  have hle : x / 2 ^ s ≤ x := Nat.div_le_self _ _
  have := bits_and_u64_nat (x / 2 ^ s) 1 (by omega) (by omega)
  rw [e, show (1 : Int) = ((1 : Nat) : Int) from rfl, this, Nat.and_one_is_mod, Nat.testBit_eq_decide_div_mod_eq]
  rw [Bool.eq_iff_iff, beq_iff_eq, decide_eq_true_iff]
  omega
theorem mask_wrap (s : Nat) (hs : s < 64) : IntKind.u64.wrap (2 ^ s) = ((2 ^ s : Nat) : Int) := by
  have := (by decide +kernel : ∀ s < 64, IntKind.u64.wrap (2 ^ s) = ((2 ^ s : Nat) : Int))
  exact this s hs
theorem mask_set (x s : Nat) (hx : x < 18446744073709551616) (hs : s < 64) : bits .or .u64 (x : Int) (IntKind.u64.wrap (2 ^ s)) = ((x ||| 2 ^ s : Nat) : Int) := by
  rw [mask_wrap s hs]
  refine bits_or_u64_nat _ _ hx ?_
  have := Nat.pow_lt_pow_right (a := 2) (by omega) hs
  exact this
structure Bits (ws : List Nat) (met : List Bool) : Prop where
  len : ws.length = met.length / 64 + 1
  small : ∀ x ∈ ws, x < 18446744073709551616
  bit : ∀ q, q < met.length → (ws.getD (q / 64) 0).testBit (q % 64) = met.getD q true
theorem Bits.new (N : Nat) : Bits (List.replicate (N / 64 + 1) 0) (List.replicate N false) where
  len := by simp
  small := fun x hx => by rw [(List.mem_replicate.1 hx).2]; omega
  bit := fun q hq => by
    rw [List.length_replicate] at hq
    rw [List.getD_eq_getElem?_getD, List.getElem?_replicate, if_pos (by omega), List.getD_eq_getElem?_getD, List.getElem?_replicate, if_pos hq]
    simp
section
variable {ws : List Nat} {met : List Bool} (h : Bits ws met) {q : Nat} (hq : q < met.length)
include h hq
theorem Bits.at_ : ∃ x, ws[q / 64]? = some x ∧ x < 18446744073709551616 ∧ x.testBit (q % 64) = met.getD q true := by
  have hl : q / 64 < ws.length := by rw [h.len]; omega
  refine ⟨ws[q / 64], List.getElem?_eq_getElem hl, h.small _ (List.getElem_mem hl), ?_⟩
  rw [← h.bit q hq, List.getD_eq_getElem?_getD, List.getElem?_eq_getElem hl]
  rfl
theorem Bits.set_ {x : Nat} (hx : ws[q / 64]? = some x) : Bits (ws.set (q / 64) (x ||| 2 ^ (q % 64))) (met.set q true) where
  len := by simp [h.len]
  small := fun y hy => by
    rcases List.mem_or_eq_of_mem_set hy with hy | rfl
    · exact h.small y hy
    · have hx2 := h.small x (List.mem_of_getElem? hx)
      have h2 : (2 : Nat) ^ (q % 64) < 2 ^ 64 := Nat.pow_lt_pow_right (by omega) (by omega)
      exact Nat.or_lt_two_pow (n := 64) hx2 h2
  bit := fun r hr => by
    rw [List.length_set] at hr
    have hl : q / 64 < ws.length := by rw [h.len]; omega
    have hold := h.bit r hr
    rw [List.getD_eq_getElem?_getD, List.getElem?_set, List.getD_eq_getElem?_getD, List.getElem?_set]
    rw [List.getD_eq_getElem?_getD, List.getD_eq_getElem?_getD] at hold
    by_cases e : q = r
    · subst e
      rw [if_pos rfl, if_pos hl, if_pos rfl, if_pos hr]
      simp [Nat.testBit_or, Nat.testBit_two_pow_self]
    · rw [if_neg e]
      by_cases e2 : q / 64 = r / 64
      · rw [if_pos e2, if_pos hl, ← hold, ← e2, hx]
        have hne : q % 64 ≠ r % 64 := by omega
        simp [Nat.testBit_or, Nat.testBit_two_pow_of_ne hne]
      · rw [if_neg e2]
        exact hold
end
end Go.Proofs.Ytclbbfkgdhmheaa
/- Results that stand in a cell: a struct's. No program here. -/
namespace Go.Proofs.Ytclbbfkgdhmheaa
open Go.RowKit

def isRow (d : TypeDesc) : Bool := match d with | .struct _ | .array _ _ => true | _ => false
theorem results_cell_tmp_row {P : Program} {fn : Func} {p u : Tmp} {ty : TypeId} (h : fn.results = #[.cell p ty, .tmp u]) (tmps : Array Value) (w : World) (g : Nat) (t : TypeId) (cs : Array Value) (d : TypeDesc)
    (hp : tmps.getD p undef = .pointer (some ⟨g, 0, none⟩)) (hg : Blk w g t cs.toList)
    (hu : P.underlying ty = some d) (hd : isRow d = true) (hi : (P.info? ty).map (·.size) = some cs.size) :
    (results fn tmps).run P w = .ok (.tuple #[.agg cs, tmps.getD u undef]) w := by
  have hp' : tmps[p]?.getD undef = .pointer (some ⟨g, 0, none⟩) := by simpa using hp
  rw [results_cell_tmp h]
  simp [asAddr, hp', Result.andThen, run_loadVar_row w g t ty cs (0, 0) d hg hu (by cases d <;> first | rfl | (simp [isRow] at hd)) hi]
theorem results_cell_one {P : Program} {fn : Func} {p : Tmp} {ty : TypeId} (h : fn.results = #[.cell p ty]) (tmps : Array Value) (w : World) (g : Nat) (t : TypeId) (cs : Array Value) (d : TypeDesc)
    (hp : tmps.getD p undef = .pointer (some ⟨g, 0, none⟩)) (hg : Blk w g t cs.toList)
    (hu : P.underlying ty = some d) (hd : isRow d = true) (hi : (P.info? ty).map (·.size) = some cs.size) :
    (results fn tmps).run P w = .ok (.agg cs) w :=
  Go.results_cell_row h tmps w g t cs (0, 0) d hp hg hu (by cases d <;> first | rfl | (simp [isRow] at hd)) hi
end Go.Proofs.Ytclbbfkgdhmheaa
/- sparse.Stack of bitstate's jobs: Push, Pop. -/
namespace Go.Proofs.Ytclbbfkgdhmheaa
open Go.RowKit Go.Proofs.Ytclbbfkgdhmheaa.Mach

/-- The cells of a job. -/
def jobVals : Job → List Value
  | .pair i k => [.int .i64 (i : Int), .int .i64 (k : Int), .int .i64 0, .int .i64 0]
  | .back c old => [.int .i64 0, .int .i64 0, .int .i64 ((c : Int) + 1), .int .i64 old]
theorem jobVals_length (j : Job) : (jobVals j).length = 4 := by cases j <;> rfl
/-- The row of a stack: the top stands last. -/
def jobRow : List Job → List Value
  | [] => []
  | j :: l => jobRow l ++ jobVals j
theorem jobRow_length (l : List Job) : (jobRow l).length = l.length * 4 := by
  induction l with
  | nil => rfl
  | cons j l ih => rw [jobRow, List.length_append, ih, jobVals_length, List.length_cons]; omega
/-- A stack in memory: its block, the slice of its list, what is in it. -/
structure Stk (w : World) (base s : Nat) (V : Value) (l : List Job) : Prop where
  blk : ∃ m, Blk w s 62 [V, .int .i64 m]
  own : w.ownsRow base 65 4 V l.length (jobRow l)
section
variable {w w' : World} {base s : Nat} {V : Value} {l : List Job}
theorem Stk.drewN (h : Stk w base s V l) (n : Nat) : Stk (w.drewN n) base s V l := ⟨h.blk.imp fun _ h => h.drewN n, own_drewN h.own n⟩
theorem Stk.below (h : Stk w base s V l) (hb : Below w.heap.size w w') : Stk w' base s V l := ⟨h.blk.imp fun _ g => g.below hb g.lt, own_below h.own hb⟩
theorem Stk.kept {L : List Nat} (h : Stk w base s V l) (k : Kept w w' L) (h1 : s ∉ L) (h2 : ∀ b, V.ownBlock = some b → b ∉ L) : Stk w' base s V l := ⟨h.blk.imp fun _ g => g.kept k h1, own_kept h.own k h2⟩
theorem Stk.ne (h : Stk w base s V l) : some s ≠ V.ownBlock := by
  obtain ⟨m, hb⟩ := h.blk
  exact blk_apart h.own hb (by decide)
end

theorem info_job : (Try.prog.info? 65).map (fun i => (i.zero, i.size, i.bytes)) = some (some (.agg #[.int .i64 0, .int .i64 0, .int .i64 0, .int .i64 0]), 4, 32) := by kernel_rfl
theorem new_at (w : World) (t : TypeId) (cs : List Value) : ∀ j u, cs[j]? = some u → (w.alloc (.cells cs.toArray t)).cell? ((⟨w.heap.size, 0, none⟩ : Addr).add j) = some u := by
  intro j u hj
  rw [add_lit, Nat.zero_add]
  exact ((Blk.new w t cs).cell j).trans hj

/-- The size of a job. -/
theorem size_job : (Try.prog.info? 65).map (·.size) = some 4 := by kernel_rfl
theorem und_job : ∃ d, Try.prog.underlying 65 = some d ∧ isRow d = true := ⟨_, Try.underlying65, rfl⟩
theorem own_lt {w : World} {base : Nat} {e : TypeId} {size : Nat} {v : Value} {n : Nat} {xs : List Value} (h : w.ownsRow base e size v n xs) (b : Nat) (hb : v.ownBlock = some b) : b < w.heap.size := (h.lt b hb).2
theorem held_of {w : World} {s X : Nat} {t t' : TypeId} {u v : Value} {a1 a2 a3 a4 : Int} (h : Blk w s t [u, v]) (g : Blk w X t' [.int .i64 a1, .int .i64 a2, .int .i64 a3, .int .i64 a4]) :
    w.cell? ⟨s, 0, none⟩ = some u ∧ w.cell? ⟨X, 0, none⟩ = some (.int .i64 a1) ∧ w.cell? ⟨X, 1, none⟩ = some (.int .i64 a2) ∧ w.cell? ⟨X, 2, none⟩ = some (.int .i64 a3) ∧ w.cell? ⟨X, 3, none⟩ = some (.int .i64 a4) :=
  ⟨h.cell 0, g.cell 0, g.cell 1, g.cell 2, g.cell 3⟩

set_option maxRecDepth 100000 in
set_option maxHeartbeats 2000000 in
theorem push_any (base s : Nat) (V : Value) (l : List Job) (j : Job) (w : World) (a1 a2 a3 a4 : Int) (hj : jobVals j = [.int .i64 a1, .int .i64 a2, .int .i64 a3, .int .i64 a4]) (h : Stk w base s V l) (hs : base ≤ s) (hn : l.length ≤ 1000000000) :
    Calls Try.prog 20 #[.pointer (some ⟨s, 0, none⟩), .agg #[.int .i64 a1, .int .i64 a2, .int .i64 a3, .int .i64 a4]] w fun e w' => e = .returned (.tuple #[]) ∧
      ∃ V', Stk w' base s V' (j :: l) ∧ Kept w w' (s :: V.ownBlock.toList) ∧ (V'.ownBlock = V.ownBlock ∨ ∃ k, w.heap.size ≤ k ∧ V'.ownBlock = some k) := by
  obtain ⟨⟨m, hb⟩, hown⟩ := h
  have hsne : some s ≠ V.ownBlock := blk_apart hown hb (by decide)
  obtain ⟨A, c, rfl⟩ := own_shape hown
  have hlt := hb.lt
  obtain ⟨i0, hi, hz0, hz1, hz2⟩ := info_parts info_job
  have hc0 : w.cell? ⟨s, 0, none⟩ = some (.slice A l.length c) := hb.cell 0
  have hc1 : w.cell? ⟨s, 1, none⟩ = some (.int .i64 m) := hb.cell 1
  have hf0 : w.frozen? ⟨s, 0, none⟩ = false := hb.frozen 0
  have hf1 : w.frozen? ⟨s, 1, none⟩ = false := hb.frozen 1
  go_enter Try.func20, Try.ntmps20
  go_wp2_with fail
  have hbx : Blk (w.alloc (.cells #[.int .i64 a1, .int .i64 a2, .int .i64 a3, .int .i64 a4] 65)) w.heap.size 65 [.int .i64 a1, .int .i64 a2, .int .i64 a3, .int .i64 a4] := Blk.new w _ [.int .i64 a1, .int .i64 a2, .int .i64 a3, .int .i64 a4]
  have hb1 := hb.alloc (.cells #[.int .i64 a1, .int .i64 a2, .int .i64 a3, .int .i64 a4] 65)
  have ho1 := own_below hown ((Below.refl _ _).alloc (Nat.le_refl _) (.cells #[.int .i64 a1, .int .i64 a2, .int .i64 a3, .int .i64 a4] 65))
  have hxne : some w.heap.size ≠ (Value.slice A l.length c).ownBlock := fun h => by have := own_lt hown w.heap.size h.symm; omega
  have hk1 : Kept w (w.alloc (.cells #[.int .i64 a1, .int .i64 a2, .int .i64 a3, .int .i64 a4] 65)) [] := Kept.alloc _
  generalize w.alloc (.cells #[.int .i64 a1, .int .i64 a2, .int .i64 a3, .int .i64 a4] 65) = w1 at *
  have s1 : w1.cell? ⟨s, 0, none⟩ = some (.slice A l.length c) := hb1.cell 0
  have k1 : w1.drew.cell? ⟨s, 0, none⟩ = some (.slice A l.length c) ∧ w1.drew.cell? ⟨w.heap.size, 0, none⟩ = some (.int .i64 a1) ∧ w1.drew.cell? ⟨w.heap.size, 1, none⟩ = some (.int .i64 a2) ∧ w1.drew.cell? ⟨w.heap.size, 2, none⟩ = some (.int .i64 a3) ∧ w1.drew.cell? ⟨w.heap.size, 3, none⟩ = some (.int .i64 a4) :=
    ⟨hb1.cell 0, hbx.cell 0, hbx.cell 1, hbx.cell 2, hbx.cell 3⟩
  have hb2 := hb1.alloc (.cells #[.int .i64 a1, .int .i64 a2, .int .i64 a3, .int .i64 a4] 65)
  have hbx2 := hbx.alloc (.cells #[.int .i64 a1, .int .i64 a2, .int .i64 a3, .int .i64 a4] 65)
  have k2 : (w1.alloc (.cells #[.int .i64 a1, .int .i64 a2, .int .i64 a3, .int .i64 a4] 65)).drew.cell? ⟨s, 0, none⟩ = some (.slice A l.length c) ∧ (w1.alloc (.cells #[.int .i64 a1, .int .i64 a2, .int .i64 a3, .int .i64 a4] 65)).drew.cell? ⟨w.heap.size, 0, none⟩ = some (.int .i64 a1) ∧ (w1.alloc (.cells #[.int .i64 a1, .int .i64 a2, .int .i64 a3, .int .i64 a4] 65)).drew.cell? ⟨w.heap.size, 1, none⟩ = some (.int .i64 a2) ∧ (w1.alloc (.cells #[.int .i64 a1, .int .i64 a2, .int .i64 a3, .int .i64 a4] 65)).drew.cell? ⟨w.heap.size, 2, none⟩ = some (.int .i64 a3) ∧ (w1.alloc (.cells #[.int .i64 a1, .int .i64 a2, .int .i64 a3, .int .i64 a4] 65)).drew.cell? ⟨w.heap.size, 3, none⟩ = some (.int .i64 a4) :=
    ⟨hb2.cell 0, hbx2.cell 0, hbx2.cell 1, hbx2.cell 2, hbx2.cell 3⟩
  have ho2 := own_below ho1 ((Below.refl _ _).alloc (Nat.le_refl _) (.cells #[.int .i64 a1, .int .i64 a2, .int .i64 a3, .int .i64 a4] 65))
  have hbs1 : base ≤ (w1.alloc (.cells #[.int .i64 a1, .int .i64 a2, .int .i64 a3, .int .i64 a4] 65)).drew.heap.size := by have := hb2.lt; simp at this ⊢; omega
  obtain ⟨e0, e1, e2, e3, e4⟩ := held_of hb1 hbx
  obtain ⟨f0, f1, f2, f3, f4⟩ := held_of hb2 hbx2
  clear k1 k2 s1
  go_region_law (first
    | (refine step_append_lies _ rfl (.tmp 8) (.tmp 10) 60 rfl base 65 i0 (.agg #[.int .i64 0, .int .i64 0, .int .i64 0, .int .i64 0]) 4 32 Try.underlying60 hi hz0 hz1 hz2 rfl (by decide) (.slice A l.length c) l.length (jobRow l) rfl ho2.drew ⟨w1.heap.size, 0, none⟩ 1 1 [.int .i64 a1, .int .i64 a2, .int .i64 a3, .int .i64 a4] rfl rfl (new_at w1 _ [.int .i64 a1, .int .i64 a2, .int .i64 a3, .int .i64 a4]) (by simp [Value.oneCell']) (by decide) (by unfold maxLen; omega) (by omega) hbs1 _ rfl ?_; intro g cap2 w2 hou2 hg2 hat2 hlt2; have hb3 := hb2.drew.grown hg2 hsne; have hbx3 := hbx2.drew.grown hg2 hxne; have q1 := hb3.cell 0; have q2 := hb3.frozen 0; simp only [List.getElem?_cons_zero] at q1))
  all_goals
    have hb4 := hb3.set_ 0 (.slice (some ⟨g, 0, none⟩) (l.length + 1) cap2)
    simp only [List.set_cons_zero] at hb4
    have hgs : ∀ b, (Value.slice (some ⟨g, 0, none⟩) (l.length + 1) cap2).ownBlock = some b → b ∉ [s] := fun b hb hm => by
      have := blk_apart hou2 hb3 (by decide)
      rw [List.mem_singleton] at hm
      exact this (by rw [hb, hm])
    have hou4 := own_kept hou2 (Kept.setCell (w := w2) ⟨s, 0, none⟩ (.slice (some ⟨g, 0, none⟩) (l.length + 1) cap2)) hgs
    have hk4 : Kept w (w2.setCell ⟨s, 0, none⟩ (.slice (some ⟨g, 0, none⟩) (l.length + 1) cap2)) (s :: (Value.slice A l.length c).ownBlock.toList) :=
      ((hk1.trans ((Kept.alloc (L := []) (.cells #[.int .i64 a1, .int .i64 a2, .int .i64 a3, .int .i64 a4] 65)).trans ((Kept.drew (L := [])).trans (Kept.of_grown' hg2)))).trans (Kept.setCell _ _)).more (by intro k hk; simp at hk ⊢; rcases hk with h | h; exact .inl (.inr h); exact .inl (.inl h))
    generalize w2.setCell ⟨s, 0, none⟩ (.slice (some ⟨g, 0, none⟩) (l.length + 1) cap2) = w3 at *
    have r0 : w3.cell? ⟨s, 0, none⟩ = some (.slice (some ⟨g, 0, none⟩) (l.length + 1) cap2) := hb4.cell 0
    have r1 : w3.cell? ⟨s, 1, none⟩ = some (.int .i64 m) := hb4.cell 1
    have r2 : w3.frozen? ⟨s, 1, none⟩ = false := hb4.frozen 1
    clear q1 q2 e0 e1 e2 e3 e4 f0 f1 f2 f3 f4 hc0 hc1 hf0 hf1
    go_wp2_with fail
    go_region
    all_goals
      go_end0
      have hb5 := fun u => (hb4.set_ 1 u).drew
      simp only [List.set_cons_succ, List.set_cons_zero] at hb5
      have hk5 := fun u => (hk4.trans (Kept.setCell (w := w3) ⟨s, 1, none⟩ u)).trans (Kept.drew (L := []))
      refine ⟨rfl, _, ⟨⟨_, hb5 _⟩, ?_⟩, (hk5 _).more (by intro k hk; simp at hk ⊢; grind), ?_⟩
      · have ho5 := fun u => own_kept hou4 ((Kept.setCell (w := w3) ⟨s, 1, none⟩ u).trans (Kept.drew (L := []))) (fun b h => by rw [List.append_nil]; exact hgs b h)
        rw [jobRow, hj]
        exact ho5 _
      · rcases hat2 with h | h
        · exact .inl h.symm
        · exact .inr ⟨g, by rw [h]; have := hk1.size; simp; omega, rfl⟩

set_option maxRecDepth 100000 in
set_option maxHeartbeats 2000000 in
theorem pop_empty (base s : Nat) (V : Value) (w : World) (h : Stk w base s V []) :
    Calls Try.prog 21 #[.pointer (some ⟨s, 0, none⟩)] w fun e w' => e = .returned (.tuple #[.agg #[.int .i64 0, .int .i64 0, .int .i64 0, .int .i64 0], .bool false]) ∧ Below w.heap.size w w' := by
  obtain ⟨⟨m, hb⟩, hown⟩ := h
  obtain ⟨A, c, rfl⟩ := own_shape hown
  have hlt := hb.lt
  have hc0 : w.cell? ⟨s, 0, none⟩ = some (.slice A 0 c) := hb.cell 0
  clear hb hown
  go_enter Try.func21, Try.ntmps21
  go_wp2_with fail
  obtain ⟨d, hu, hd⟩ := und_job
  have z0 : Blk ((w.alloc (.cells #[.int .i64 0, .int .i64 0, .int .i64 0, .int .i64 0] 65)).alloc (.cells #[.int .i64 0, .int .i64 0, .int .i64 0, .int .i64 0] 65)) w.heap.size 65 [.int .i64 0, .int .i64 0, .int .i64 0, .int .i64 0] := (Blk.new w _ [.int .i64 0, .int .i64 0, .int .i64 0, .int .i64 0]).alloc _
  (try simp only [Exit.inBlock, Exit.then])
  refine bodyPost_ret (results_cell_tmp_row rfl _ _ w.heap.size _ #[.int .i64 0, .int .i64 0, .int .i64 0, .int .i64 0] d rfl z0 hu hd size_job) rfl ?_
  exact ⟨rfl, ((Below.refl _ _).alloc (Nat.le_refl _) _).alloc (by simp) _⟩

set_option maxRecDepth 100000 in
set_option maxHeartbeats 2000000 in
theorem pop_any (base s : Nat) (V : Value) (l : List Job) (j : Job) (w : World) (a1 a2 a3 a4 : Int) (hj : jobVals j = [.int .i64 a1, .int .i64 a2, .int .i64 a3, .int .i64 a4]) (h : Stk w base s V (j :: l)) (hn : l.length ≤ 1000000000) :
    Calls Try.prog 21 #[.pointer (some ⟨s, 0, none⟩)] w fun e w' => e = .returned (.tuple #[.agg #[.int .i64 a1, .int .i64 a2, .int .i64 a3, .int .i64 a4], .bool true]) ∧
      ∃ V', Stk w' base s V' l ∧ Kept w w' (s :: V.ownBlock.toList) ∧ V'.ownBlock = V.ownBlock := by
  obtain ⟨⟨m, hb⟩, hown⟩ := h
  have hsne : some s ≠ V.ownBlock := blk_apart hown hb (by decide)
  obtain ⟨g, c, cur, rfl, hbg, hh, hnc, hcm, hcs, ht⟩ : ∃ g c cur, V = .slice (some ⟨g, 0, none⟩) (l.length + 1) c ∧ base ≤ g ∧ w.heap[g]? = some (.cells cur 65 (0, 0)) ∧ l.length + 1 ≤ c ∧ c ≤ 9223372036854775807 ∧ cur.size = c * 4 ∧ cur.toList.take ((l.length + 1) * 4) = jobRow (j :: l) := by
    rcases hown.2 with ⟨_, h0⟩ | ⟨g, c, cur, hv, h1, h2, h3, h4, h5, h6⟩
    · simp at h0
    · exact ⟨g, c, cur, hv, h1, h2, h3, h4, h5, h6⟩
  have hgs : g ≠ s := fun e => hsne (by rw [e]; rfl)
  have hG : Blk w g 65 cur.toList := hh
  have hcell : ∀ q u, [Value.int .i64 a1, .int .i64 a2, .int .i64 a3, .int .i64 a4][q]? = some u → w.cell? ⟨g, l.length * 4 + q, none⟩ = some u := fun q u hq => by
    rw [hG.cell]
    have hq4 : q < 4 := by
      rcases Nat.lt_or_ge q 4 with h | h
      · exact h
      · rw [List.getElem?_eq_none (by simpa using h)] at hq; cases hq
    have e1 : (cur.toList.take ((l.length + 1) * 4))[l.length * 4 + q]? = cur.toList[l.length * 4 + q]? := List.getElem?_take_of_lt (by omega)
    rw [← e1, ht, jobRow, List.getElem?_append_right (by rw [jobRow_length]; omega), jobRow_length, hj, Nat.add_sub_cancel_left]
    exact hq
  have c0 := hcell 0 _ rfl
  have c1 := hcell 1 _ rfl
  have c2 := hcell 2 _ rfl
  have c3 := hcell 3 _ rfl
  have d0 := hG.frozen (l.length * 4)
  have d1 := hG.frozen (l.length * 4 + 1)
  have d2 := hG.frozen (l.length * 4 + 2)
  have d3 := hG.frozen (l.length * 4 + 3)
  have hc0 : w.cell? ⟨s, 0, none⟩ = some (.slice (some ⟨g, 0, none⟩) (l.length + 1) c) := hb.cell 0
  have hf0 : w.frozen? ⟨s, 0, none⟩ = false := hb.frozen 0
  have hlt := hb.lt
  have hltg := hG.lt
  rw [Nat.add_zero] at c0
  go_enter Try.func21, Try.ntmps21
  go_wp2_with fail
  have n1 : (w.alloc (.cells #[.int .i64 0, .int .i64 0, .int .i64 0, .int .i64 0] 65)).heap.size = w.heap.size + 1 := by simp
  have n2 : ((w.alloc (.cells #[.int .i64 0, .int .i64 0, .int .i64 0, .int .i64 0] 65)).alloc (.cells #[.int .i64 0, .int .i64 0, .int .i64 0, .int .i64 0] 65)).heap.size = w.heap.size + 1 + 1 := by simp
  have z0 : Blk (((w.alloc (.cells #[.int .i64 0, .int .i64 0, .int .i64 0, .int .i64 0] 65)).alloc (.cells #[.int .i64 0, .int .i64 0, .int .i64 0, .int .i64 0] 65)).alloc (.cells #[.int .i64 a1, .int .i64 a2, .int .i64 a3, .int .i64 a4] 65)) w.heap.size 65 [.int .i64 0, .int .i64 0, .int .i64 0, .int .i64 0] := ((Blk.new w _ [.int .i64 0, .int .i64 0, .int .i64 0, .int .i64 0]).alloc _).alloc _
  have z1 : Blk (((w.alloc (.cells #[.int .i64 0, .int .i64 0, .int .i64 0, .int .i64 0] 65)).alloc (.cells #[.int .i64 0, .int .i64 0, .int .i64 0, .int .i64 0] 65)).alloc (.cells #[.int .i64 a1, .int .i64 a2, .int .i64 a3, .int .i64 a4] 65)) (w.heap.size + 1) 65 [.int .i64 0, .int .i64 0, .int .i64 0, .int .i64 0] := by have := (Blk.new (w.alloc (.cells #[.int .i64 0, .int .i64 0, .int .i64 0, .int .i64 0] 65)) 65 [.int .i64 0, .int .i64 0, .int .i64 0, .int .i64 0]).alloc (.cells #[.int .i64 a1, .int .i64 a2, .int .i64 a3, .int .i64 a4] 65); rw [n1] at this; exact this
  have z2 : Blk (((w.alloc (.cells #[.int .i64 0, .int .i64 0, .int .i64 0, .int .i64 0] 65)).alloc (.cells #[.int .i64 0, .int .i64 0, .int .i64 0, .int .i64 0] 65)).alloc (.cells #[.int .i64 a1, .int .i64 a2, .int .i64 a3, .int .i64 a4] 65)) (w.heap.size + 1 + 1) 65 [.int .i64 a1, .int .i64 a2, .int .i64 a3, .int .i64 a4] := by have := Blk.new ((w.alloc (.cells #[.int .i64 0, .int .i64 0, .int .i64 0, .int .i64 0] 65)).alloc (.cells #[.int .i64 0, .int .i64 0, .int .i64 0, .int .i64 0] 65)) 65 [.int .i64 a1, .int .i64 a2, .int .i64 a3, .int .i64 a4]; rw [n2] at this; exact this
  have zs : Blk (((w.alloc (.cells #[.int .i64 0, .int .i64 0, .int .i64 0, .int .i64 0] 65)).alloc (.cells #[.int .i64 0, .int .i64 0, .int .i64 0, .int .i64 0] 65)).alloc (.cells #[.int .i64 a1, .int .i64 a2, .int .i64 a3, .int .i64 a4] 65)) s 62 [.slice (some ⟨g, 0, none⟩) (l.length + 1) c, .int .i64 m] := ((hb.alloc _).alloc _).alloc _
  have zg : Blk (((w.alloc (.cells #[.int .i64 0, .int .i64 0, .int .i64 0, .int .i64 0] 65)).alloc (.cells #[.int .i64 0, .int .i64 0, .int .i64 0, .int .i64 0] 65)).alloc (.cells #[.int .i64 a1, .int .i64 a2, .int .i64 a3, .int .i64 a4] 65)) g 65 cur.toList := ((hG.alloc _).alloc _).alloc _
  have zk : Kept w (((w.alloc (.cells #[.int .i64 0, .int .i64 0, .int .i64 0, .int .i64 0] 65)).alloc (.cells #[.int .i64 0, .int .i64 0, .int .i64 0, .int .i64 0] 65)).alloc (.cells #[.int .i64 a1, .int .i64 a2, .int .i64 a3, .int .i64 a4] 65)) [] := ((Kept.alloc (L := []) _).trans ((Kept.alloc (L := []) _).trans (Kept.alloc (L := []) _)))
  have k0 := (zg.cell (l.length * 4)).trans ((hG.cell (l.length * 4)).symm.trans c0)
  have k1 := (zg.cell (l.length * 4 + 1)).trans ((hG.cell (l.length * 4 + 1)).symm.trans c1)
  have k2 := (zg.cell (l.length * 4 + 2)).trans ((hG.cell (l.length * 4 + 2)).symm.trans c2)
  have k3 := (zg.cell (l.length * 4 + 3)).trans ((hG.cell (l.length * 4 + 3)).symm.trans c3)
  clear n1 n2 c0 c1 c2 c3 d0 d1 d2 d3 hc0 hf0
  generalize ((w.alloc (.cells #[.int .i64 0, .int .i64 0, .int .i64 0, .int .i64 0] 65)).alloc (.cells #[.int .i64 0, .int .i64 0, .int .i64 0, .int .i64 0] 65)).alloc (.cells #[.int .i64 a1, .int .i64 a2, .int .i64 a3, .int .i64 a4] 65) = w3 at *
  have d0 := zg.frozen (l.length * 4)
  have d1 := zg.frozen (l.length * 4 + 1)
  have d2 := zg.frozen (l.length * 4 + 2)
  have d3 := zg.frozen (l.length * 4 + 3)
  have hc0 : w3.cell? ⟨s, 0, none⟩ = some (.slice (some ⟨g, 0, none⟩) (l.length + 1) c) := zs.cell 0
  have y0 : w3.cell? ⟨w.heap.size + 1, 0, none⟩ = some (.int .i64 0) := z1.cell 0
  have y1 : w3.cell? ⟨w.heap.size + 1, 1, none⟩ = some (.int .i64 0) := z1.cell 1
  have y2 : w3.cell? ⟨w.heap.size + 1, 2, none⟩ = some (.int .i64 0) := z1.cell 2
  have y3 : w3.cell? ⟨w.heap.size + 1, 3, none⟩ = some (.int .i64 0) := z1.cell 3
  go_region
  have g1 : w.heap.size ≠ g := by omega
  have g2 : w.heap.size + 1 + 1 ≠ g := by omega
  have q0 := (((z0.far (p := ⟨g, l.length * 4, none⟩) g1 (.int .i64 0)).far (p := ⟨g, l.length * 4 + 1, none⟩) g1 (.int .i64 0)).far (p := ⟨g, l.length * 4 + 2, none⟩) g1 (.int .i64 0)).far (p := ⟨g, l.length * 4 + 3, none⟩) g1 (.int .i64 0)
  have q2 := (((z2.far (p := ⟨g, l.length * 4, none⟩) g2 (.int .i64 0)).far (p := ⟨g, l.length * 4 + 1, none⟩) g2 (.int .i64 0)).far (p := ⟨g, l.length * 4 + 2, none⟩) g2 (.int .i64 0)).far (p := ⟨g, l.length * 4 + 3, none⟩) g2 (.int .i64 0)
  have qs := (((zs.far (p := ⟨g, l.length * 4, none⟩) (Ne.symm hgs) (.int .i64 0)).far (p := ⟨g, l.length * 4 + 1, none⟩) (Ne.symm hgs) (.int .i64 0)).far (p := ⟨g, l.length * 4 + 2, none⟩) (Ne.symm hgs) (.int .i64 0)).far (p := ⟨g, l.length * 4 + 3, none⟩) (Ne.symm hgs) (.int .i64 0)
  have qg := (((zg.set_ (l.length * 4) (.int .i64 0)).set_ (l.length * 4 + 1) (.int .i64 0)).set_ (l.length * 4 + 2) (.int .i64 0)).set_ (l.length * 4 + 3) (.int .i64 0)
  have qk : Kept w ((((w3.setCell ⟨g, l.length * 4, none⟩ (.int .i64 0)).setCell ⟨g, l.length * 4 + 1, none⟩ (.int .i64 0)).setCell ⟨g, l.length * 4 + 2, none⟩ (.int .i64 0)).setCell ⟨g, l.length * 4 + 3, none⟩ (.int .i64 0)) [g] :=
    ((((zk.trans (Kept.setCell (w := w3) ⟨g, l.length * 4, none⟩ (.int .i64 0))).trans (Kept.setCell ⟨g, l.length * 4 + 1, none⟩ (.int .i64 0))).trans (Kept.setCell ⟨g, l.length * 4 + 2, none⟩ (.int .i64 0))).trans (Kept.setCell ⟨g, l.length * 4 + 3, none⟩ (.int .i64 0))).more (by intro k hk; simp at hk ⊢; omega)
  clear z0 z1 z2 zs zg zk k0 k1 k2 k3 d0 d1 d2 d3 hc0 y0 y1 y2 y3
  generalize (((w3.setCell ⟨g, l.length * 4, none⟩ (.int .i64 0)).setCell ⟨g, l.length * 4 + 1, none⟩ (.int .i64 0)).setCell ⟨g, l.length * 4 + 2, none⟩ (.int .i64 0)).setCell ⟨g, l.length * 4 + 3, none⟩ (.int .i64 0) = w4 at *
  have e0 : w4.cell? ⟨s, 0, none⟩ = some (.slice (some ⟨g, 0, none⟩) (l.length + 1) c) := qs.cell 0
  have e1 : w4.frozen? ⟨s, 0, none⟩ = false := qs.frozen 0
  have b0 := fun x => q0.frozen x
  have x0 : w4.cell? ⟨w.heap.size, 0, none⟩ = some (.int .i64 0) := q0.cell 0
  have x1 : w4.cell? ⟨w.heap.size, 1, none⟩ = some (.int .i64 0) := q0.cell 1
  have x2 : w4.cell? ⟨w.heap.size, 2, none⟩ = some (.int .i64 0) := q0.cell 2
  have x3 : w4.cell? ⟨w.heap.size, 3, none⟩ = some (.int .i64 0) := q0.cell 3
  have y0 : w4.cell? ⟨w.heap.size + 1 + 1, 0, none⟩ = some (.int .i64 a1) := q2.cell 0
  have y1 : w4.cell? ⟨w.heap.size + 1 + 1, 1, none⟩ = some (.int .i64 a2) := q2.cell 1
  have y2 : w4.cell? ⟨w.heap.size + 1 + 1, 2, none⟩ = some (.int .i64 a3) := q2.cell 2
  have y3 : w4.cell? ⟨w.heap.size + 1 + 1, 3, none⟩ = some (.int .i64 a4) := q2.cell 3
  go_wp2_with fail
  have j1 : w.heap.size ≠ s := by omega
  have u0 := ((((((q0.far (p := ⟨s, 0, none⟩) j1 (.slice (some ⟨g, 0, none⟩) l.length c)).set_ 0 (.int .i64 a1)).set_ 1 (.int .i64 a2)).set_ 2 (.int .i64 a3)).set_ 3 (.int .i64 a4))).drew
  have us := ((((((qs.set_ 0 (.slice (some ⟨g, 0, none⟩) l.length c)).far (p := ⟨w.heap.size, 0, none⟩) (Ne.symm j1) (.int .i64 a1)).far (p := ⟨w.heap.size, 1, none⟩) (Ne.symm j1) (.int .i64 a2)).far (p := ⟨w.heap.size, 2, none⟩) (Ne.symm j1) (.int .i64 a3)).far (p := ⟨w.heap.size, 3, none⟩) (Ne.symm j1) (.int .i64 a4))).drew
  have ug := ((((((qg.far (p := ⟨s, 0, none⟩) hgs (.slice (some ⟨g, 0, none⟩) l.length c)).far (p := ⟨w.heap.size, 0, none⟩) (Ne.symm g1) (.int .i64 a1)).far (p := ⟨w.heap.size, 1, none⟩) (Ne.symm g1) (.int .i64 a2)).far (p := ⟨w.heap.size, 2, none⟩) (Ne.symm g1) (.int .i64 a3)).far (p := ⟨w.heap.size, 3, none⟩) (Ne.symm g1) (.int .i64 a4))).drew
  have uk : Kept w (((((w4.setCell ⟨s, 0, none⟩ (.slice (some ⟨g, 0, none⟩) l.length c)).setCell ⟨w.heap.size, 0, none⟩ (.int .i64 a1)).setCell ⟨w.heap.size, 1, none⟩ (.int .i64 a2)).setCell ⟨w.heap.size, 2, none⟩ (.int .i64 a3)).setCell ⟨w.heap.size, 3, none⟩ (.int .i64 a4)).drew [s, g] :=
    ((((((qk.trans (Kept.setCell (w := w4) ⟨s, 0, none⟩ (.slice (some ⟨g, 0, none⟩) l.length c))).trans (Kept.setCell ⟨w.heap.size, 0, none⟩ (.int .i64 a1))).trans (Kept.setCell ⟨w.heap.size, 1, none⟩ (.int .i64 a2))).trans (Kept.setCell ⟨w.heap.size, 2, none⟩ (.int .i64 a3))).trans (Kept.setCell ⟨w.heap.size, 3, none⟩ (.int .i64 a4))).trans (Kept.drew (L := []))).more (by intro k hk; simp at hk ⊢; omega)
  simp only [List.set_cons_zero, List.set_cons_succ] at u0 us
  clear q0 q2 qs qg qk e0 e1 b0 x0 x1 x2 x3 y0 y1 y2 y3
  generalize (((((w4.setCell ⟨s, 0, none⟩ (.slice (some ⟨g, 0, none⟩) l.length c)).setCell ⟨w.heap.size, 0, none⟩ (.int .i64 a1)).setCell ⟨w.heap.size, 1, none⟩ (.int .i64 a2)).setCell ⟨w.heap.size, 2, none⟩ (.int .i64 a3)).setCell ⟨w.heap.size, 3, none⟩ (.int .i64 a4)).drew = w5 at *
  obtain ⟨d, hu, hd⟩ := und_job
  (try simp only [Exit.inBlock, Exit.then])
  refine bodyPost_ret (results_cell_tmp_row rfl _ _ w.heap.size _ #[.int .i64 a1, .int .i64 a2, .int .i64 a3, .int .i64 a4] d rfl u0 hu hd size_job) rfl ?_
  refine ⟨rfl, .slice (some ⟨g, 0, none⟩) l.length c, ⟨⟨_, us⟩, ⟨jobRow_length l, .inr ⟨g, c, _, rfl, hbg, ug, by omega, hcm, ?_, ?_⟩⟩⟩, uk.more (by intro k hk; simp [Value.ownBlock] at hk ⊢; omega), rfl⟩
  · simp [hcs]
  · rw [List.take_set_of_le (by omega), List.take_set_of_le (by omega), List.take_set_of_le (by omega), List.take_set_of_le (by omega)]
    have e1 : cur.toList.take (l.length * 4) = (cur.toList.take ((l.length + 1) * 4)).take (l.length * 4) := by rw [List.take_take, Nat.min_eq_left (by omega)]
    rw [e1, ht, jobRow, ← jobRow_length l]
    exact List.take_left
end Go.Proofs.Ytclbbfkgdhmheaa
/- slices.Clone of a row of ints. -/
namespace Go.Proofs.Ytclbbfkgdhmheaa
open Go.RowKit

theorem int_info : (Try.prog.info? 3).map (fun i => (i.zero, i.size, i.bytes)) = some (some (.int .i64 0), 1, 8) := by kernel_rfl
set_option maxRecDepth 100000 in
set_option maxHeartbeats 2000000 in
/-- Clone. -/
theorem clone_any (A : Option Addr) (n c : Nat) (l : List Int) (w : World) (hA : A = none → c = 0) (hr : Reads w w.heap.size 1 A n c (l.map (Value.int .i64))) (hn : n ≤ 4194304) :
    Calls Try.prog 25 #[.slice A n c] w fun e w' => ∃ v, e = .returned v ∧ w'.ownsRow w.heap.size 3 1 v l.length (l.map (Value.int .i64)) ∧ Below w.heap.size w w' := by
  obtain ⟨i0, hi, hz0, hz1, hz2⟩ := info_parts int_info
  have hlen : l.length = n := by have := hr.len; simpa using this
  have HLEN := Lib.hid hlen
  clear hlen
  have hnc := hr.le
  have hcap := hr.cap
  have heq := Lib.run_eql_slice_nil (P := Try.prog) w 29 3 A n c 0 0 Try.underlying29
  cases A with
  | none =>
    obtain rfl : c = 0 := hA rfl
    obtain rfl : n = 0 := by omega
    obtain rfl : l = [] := List.eq_nil_of_length_eq_zero HLEN.out
    have HR := Lib.hid hr
    clear hr hA
    go_enter Try.func25, Try.ntmps25
    go_wp2_with fail
    go_ret
    exact ⟨_, rfl, World.ownsRow_nil _ _ _ _, Below.refl _ _⟩
  | some ad =>
    have hr1 : Reads (w.alloc (.cells #[] 3)) w.heap.size 1 (some ad) n c (l.map (Value.int .i64)) := hr.alloc (Nat.le_refl _) _
    have ho : (w.alloc (.cells #[] 3)).ownsRow w.heap.size 3 1 (.slice (some ⟨w.heap.size, 0, none⟩) 0 0) 0 [] := own_lit w w.heap.size 3 1 0 #[] [] (Nat.le_refl _) rfl rfl (by decide)
    have hb : Below w.heap.size w (w.alloc (.cells #[] 3)) := (Below.refl _ _).alloc (Nat.le_refl _) _
    have HR := Lib.hid hr1
    have HO := Lib.hid ho
    clear hr hr1 ho hA
    go_enter Try.func25, Try.ntmps25
    go_wp2_with (at_builtin; refine wpList_append_reads rfl (.tmp 5) (.tmp 6) 29 rfl w.heap.size 3 i0 (.int .i64 0) 1 8 Try.underlying29 hi hz0 hz1 hz2 rfl (by decide) _ 0 [] rfl HO.out (some ad) w.heap.size n c (l.map (Value.int .i64)) rfl (fun h => by cases h) HR.out (ints_oneCell _ _) (by unfold maxLen; omega) (by omega) (by simp) ?_; intro v1 w1 ha1)
    go_ret
    have hbe := hb.grown ha1.grown (by simp) (fun k hk => (HO.out.lt k hk).1)
    have := ha1.own
    rw [Nat.zero_add, List.nil_append, ← HLEN.out] at this
    exact ⟨_, rfl, this, hbe⟩

end Go.Proofs.Ytclbbfkgdhmheaa
