/- heronref07: what is reckoned of a tree: row.add, join, joined; over, empty. -/
import Derived.Test.YtfgelkfnbohmmaaQSum
import Derived.Test.YtfgelkfnbohmmaaQRes
import Derived.Test.YtfgelkfnbohmmaaQTreeW
import Derived.StillTailTactics
namespace Go.Proofs.Ytfgelkfnbohmmaa
open Go.RowKit Go.Proofs.Ytfgelkfnbohmmaa.Tr

theorem kept4 (w : World) (g : Nat) (x0 x1 x2 x3 : Value) : Kept w ((((w.setCell ⟨g, 0, none⟩ x0).setCell ⟨g, 1, none⟩ x1).setCell ⟨g, 2, none⟩ x2).setCell ⟨g, 3, none⟩ x3) [g] :=
  ((((Kept.setCell ⟨g, 0, none⟩ x0).trans (Kept.setCell ⟨g, 1, none⟩ x1)).trans (Kept.setCell ⟨g, 2, none⟩ x2)).trans (Kept.setCell ⟨g, 3, none⟩ x3)).more (by intro b hb; simp at hb; exact .inl (by simp [hb]))
theorem wrI7 {x : Int} (h : -9223372036854775808 ≤ x ∧ x < 9223372036854775808) : IntKind.i64.wrap x = x := by rw [IntKind.wrap_i64]; omega
theorem mul7 {n b : Int} (hn : 0 ≤ n ∧ n ≤ 1000) (hb : 0 ≤ b ∧ b ≤ 1099511627776) : 0 ≤ n * b ∧ n * b ≤ 1099511627776000 := by
  refine ⟨Int.mul_nonneg hn.1 hb.1, ?_⟩
  have := Int.mul_le_mul hn.2 hb.2 hb.1 (by decide)
  omega
def smV7 (x : Sm) : List Value := [.int .i64 x.kd, .int .i64 x.nd, .int .i64 x.sb, .int .i64 x.dp]
def sv7 (x : Sm) : Value := .agg (smV7 x).toArray
def rwV7 (r : Rw) : List Value := [.int .i64 r.sb, .int .i64 r.nd, .int .i64 r.dp, .int .i64 r.last.kd, .int .i64 r.last.nd, .int .i64 r.last.sb, .int .i64 r.last.dp]
theorem und_sum : ∃ d, Try.prog.underlying 69 = some d ∧ isRow d = true := ⟨_, Try.underlying69, rfl⟩
theorem size_sum : (Try.prog.info? 69).map (·.size) = some 4 := by kernel_rfl
theorem sum_ret {fn : Func} {p : Tmp} (h : fn.results = #[.cell p 69]) (tmps : Array Value) (w : World) (g : Nat) (v0 v1 v2 v3 : Value) (hp : tmps.getD p undef = .pointer (some ⟨g, 0, none⟩)) (hg : Blk w g 69 [v0, v1, v2, v3]) :
    (results fn tmps).run Try.prog w = .ok (.agg #[v0, v1, v2, v3]) w := by
  obtain ⟨d, hu, hd⟩ := und_sum
  exact results_cell_one h tmps w g _ #[v0, v1, v2, v3] d hp hg hu hd size_sum
theorem agg7 {a a' b b' c c' d d' : Int} (h1 : a = a') (h2 : b = b') (h3 : c = c') (h4 : d = d') : Value.agg #[.int .i64 a, .int .i64 b, .int .i64 c, .int .i64 d] = Value.agg #[.int .i64 a', .int .i64 b', .int .i64 c', .int .i64 d'] := by subst h1 h2 h3 h4; rfl
set_option maxRecDepth 100000 in
set_option maxHeartbeats 1000000 in
theorem empty7_any (w : World) : Calls Try.prog 80 #[] w fun e w' => e = .returned (sv7 emptyS) ∧ Below w.heap.size w w' := by
  go_enter Try.func80, Try.ntmps80
  go_wp2_with fail
  refine bodyPost_ret (sum_ret rfl _ _ w.heap.size _ _ _ _ rfl (Blk.new w _ [_, _, _, _])) rfl ?_
  exact ⟨rfl, (Below.refl _ _).alloc (Nat.le_refl _) _⟩
set_option maxRecDepth 100000 in
set_option maxHeartbeats 1000000 in
theorem over7_any (k : Int) (x : Sm) (d : Int) (w : World) (hx : BS x d) (hd : d ≤ 1000000000) : Calls Try.prog 44 #[.int .i64 k, sv7 x] w fun e w' => e = .returned (sv7 (overS k x)) ∧ Below w.heap.size w w' := by
  obtain ⟨hk, hn, hs, hdp⟩ := hx
  have hlid : lidN = 1099511627776 := rfl
  simp only [sv7, smV7, overS]
  go_enter Try.func44, Try.ntmps44
  go_wp2_with fail
  all_goals
    refine bodyPost_ret (sum_ret rfl _ _ (w.heap.size + 1) _ _ _ _ rfl (two_blk w _ _ [_, _, _, _])) rfl ?_
    exact ⟨congrArg Ending.returned (agg7 rfl (by omega) rfl rfl), two_below w _ _⟩
set_option maxRecDepth 100000 in
set_option maxHeartbeats 2000000 in
theorem add7_flat (r : Rw) (x : Sm) (n flat d : Int) (w : World) (rb : Nat) (hb : Blk w rb 97 (rwV7 r)) (hr : BR r d) (hx : BS x d) (hd : d ≤ 1000000000) (hn : 1 ≤ n ∧ n ≤ 1000) (hf : x.kd = flat) :
    Calls Try.prog 47 #[.pointer (some ⟨rb, 0, none⟩), sv7 x, .int .i64 n, .int .i64 flat] w fun e w' => e = .returned (.tuple #[]) ∧ Blk w' rb 97 (rwV7 (addR r x n flat)) ∧ Kept w w' [rb] := by
  subst hf
  obtain ⟨hk, hxn, hs, hdp⟩ := hx
  obtain ⟨hrn, hrs, hrd, -⟩ := hr
  have hlid : lidN = 1099511627776 := rfl
  rw [hlid] at hxn hs hrn hrs
  clear hlid
  have hrb := hb.lt
  have HB1 := Lib.hid (hb.alloc (.cells #[.int .i64 x.kd, .int .i64 x.nd, .int .i64 x.sb, .int .i64 x.dp] 69))
  have HX1 := Lib.hid (Blk.new w 69 [.int .i64 x.kd, .int .i64 x.nd, .int .i64 x.sb, .int .i64 x.dp])
  have HK1 := Lib.hid (Kept.alloc (w := w) (L := [rb]) (.cells #[.int .i64 x.kd, .int .i64 x.nd, .int .i64 x.sb, .int .i64 x.dp] 69))
  have hm1 := mul7 (n := n) (b := x.sb) (by omega) (by omega)
  have hm2 := mul7 (n := n) (b := x.nd - 1) (by omega) (by omega)
  have hm3 := mul7 (n := n) (b := x.nd) (by omega) (by omega)
  have hw1 : IntKind.i64.wrap (n * x.sb) = n * x.sb := wrI7 (by omega)
  have hw2 : IntKind.i64.wrap (n * (x.nd - 1)) = n * (x.nd - 1) := wrI7 (by omega)
  have hw3 : IntKind.i64.wrap (n * x.nd) = n * x.nd := wrI7 (by omega)
  have hw4 : IntKind.i64.wrap (r.sb + n * x.sb) = r.sb + n * x.sb := wrI7 (by omega)
  have hw5 : IntKind.i64.wrap (r.nd + n * (x.nd - 1)) = r.nd + n * (x.nd - 1) := wrI7 (by omega)
  have hw6 : IntKind.i64.wrap (r.nd + n * x.nd) = r.nd + n * x.nd := wrI7 (by omega)
  have hw7 : IntKind.i64.wrap (r.sb + n) = r.sb + n := wrI7 (by omega)
  have hw8 : IntKind.i64.wrap (x.nd - 1) = x.nd - 1 := wrI7 (by omega)
  have hw9 : IntKind.i64.wrap (x.dp - 1) = x.dp - 1 := wrI7 (by omega)
  have hb0 := hb
  clear hb
  have hnz : (n == 0) = false := by simp; omega
  have hn0 : ¬ (n = 0) := by omega
  simp only [sv7, smV7]
  have s0' : (w.alloc (.cells #[.int .i64 x.kd, .int .i64 x.nd, .int .i64 x.sb, .int .i64 x.dp] 69)).cell? ⟨w.heap.size, 0, none⟩ = some (.int .i64 x.kd) := HX1.out.cell 0
  go_enter Try.func47, Try.ntmps47
  go_wp2_with fail
  generalize (w.alloc (.cells #[.int .i64 x.kd, .int .i64 x.nd, .int .i64 x.sb, .int .i64 x.dp] 69)) = w1 at *
  have c0 : w1.cell? ⟨rb, 0, none⟩ = some (.int .i64 r.sb) := HB1.out.cell 0
  have c1 : w1.cell? ⟨rb, 1, none⟩ = some (.int .i64 r.nd) := HB1.out.cell 1
  have c2 : w1.cell? ⟨rb, 2, none⟩ = some (.int .i64 r.dp) := HB1.out.cell 2
  have c3 : w1.cell? ⟨rb, 3, none⟩ = some (.int .i64 r.last.kd) := HB1.out.cell 3
  have c4 : w1.cell? ⟨rb, 4, none⟩ = some (.int .i64 r.last.nd) := HB1.out.cell 4
  have c5 : w1.cell? ⟨rb, 5, none⟩ = some (.int .i64 r.last.sb) := HB1.out.cell 5
  have c6 : w1.cell? ⟨rb, 6, none⟩ = some (.int .i64 r.last.dp) := HB1.out.cell 6
  have fz0 := HB1.out.frozen 0
  have fz1 := HB1.out.frozen 1
  have fz2 := HB1.out.frozen 2
  have fz3 := HB1.out.frozen 3
  have fz4 := HB1.out.frozen 4
  have fz5 := HB1.out.frozen 5
  have fz6 := HB1.out.frozen 6
  have s0 : w1.cell? ⟨w.heap.size, 0, none⟩ = some (.int .i64 x.kd) := HX1.out.cell 0
  have s1 : w1.cell? ⟨w.heap.size, 1, none⟩ = some (.int .i64 x.nd) := HX1.out.cell 1
  have s2 : w1.cell? ⟨w.heap.size, 2, none⟩ = some (.int .i64 x.sb) := HX1.out.cell 2
  have s3 : w1.cell? ⟨w.heap.size, 3, none⟩ = some (.int .i64 x.dp) := HX1.out.cell 3
  go_still_tail 13, (by kernel_rfl)
  rw [show (if 1099511627776 < r.sb + n * x.sb then 1099511627776 else r.sb + n * x.sb) = min (r.sb + n * x.sb) 1099511627776 from by omega]
  change wpList _ _ _ _ _ w1.drew
  go_wp2_with fail
  have HB2 : Hid (Blk (w1.setCell ⟨rb, 0, none⟩ (.int .i64 (min (r.sb + n * x.sb) 1099511627776))).drew rb 97 [.int .i64 (min (r.sb + n * x.sb) 1099511627776), .int .i64 r.nd, .int .i64 r.dp, .int .i64 r.last.kd, .int .i64 r.last.nd, .int .i64 r.last.sb, .int .i64 r.last.dp]) := Lib.hid ((HB1.out.set_ 0 (.int .i64 (min (r.sb + n * x.sb) 1099511627776))).drew)
  have HX2 : Hid (Blk (w1.setCell ⟨rb, 0, none⟩ (.int .i64 (min (r.sb + n * x.sb) 1099511627776))).drew w.heap.size 69 [.int .i64 x.kd, .int .i64 x.nd, .int .i64 x.sb, .int .i64 x.dp]) := Lib.hid ((HX1.out.kept (Kept.setCell ⟨rb, 0, none⟩ _) (by simp; omega)).drew)
  have HK2 : Hid (Kept w (w1.setCell ⟨rb, 0, none⟩ (.int .i64 (min (r.sb + n * x.sb) 1099511627776))).drew [rb]) := Lib.hid (((HK1.out.trans (Kept.setCell ⟨rb, 0, none⟩ _)).trans (Kept.drew (L := []))).more (by intro k hk; simp at hk; exact .inl (by simp [hk])))
  clear c0 c1 c2 c3 c4 c5 c6 fz0 fz1 fz2 fz3 fz4 fz5 fz6 s0 s1 s2 s3
  generalize (w1.setCell ⟨rb, 0, none⟩ (.int .i64 (min (r.sb + n * x.sb) 1099511627776))).drew = w2 at *
  have c0 : w2.cell? ⟨rb, 0, none⟩ = some (.int .i64 (min (r.sb + n * x.sb) 1099511627776)) := HB2.out.cell 0
  have c1 : w2.cell? ⟨rb, 1, none⟩ = some (.int .i64 r.nd) := HB2.out.cell 1
  have c2 : w2.cell? ⟨rb, 2, none⟩ = some (.int .i64 r.dp) := HB2.out.cell 2
  have c3 : w2.cell? ⟨rb, 3, none⟩ = some (.int .i64 r.last.kd) := HB2.out.cell 3
  have c4 : w2.cell? ⟨rb, 4, none⟩ = some (.int .i64 r.last.nd) := HB2.out.cell 4
  have c5 : w2.cell? ⟨rb, 5, none⟩ = some (.int .i64 r.last.sb) := HB2.out.cell 5
  have c6 : w2.cell? ⟨rb, 6, none⟩ = some (.int .i64 r.last.dp) := HB2.out.cell 6
  have fz0 := HB2.out.frozen 0
  have fz1 := HB2.out.frozen 1
  have fz2 := HB2.out.frozen 2
  have fz3 := HB2.out.frozen 3
  have fz4 := HB2.out.frozen 4
  have fz5 := HB2.out.frozen 5
  have fz6 := HB2.out.frozen 6
  have s0 : w2.cell? ⟨w.heap.size, 0, none⟩ = some (.int .i64 x.kd) := HX2.out.cell 0
  have s1 : w2.cell? ⟨w.heap.size, 1, none⟩ = some (.int .i64 x.nd) := HX2.out.cell 1
  have s2 : w2.cell? ⟨w.heap.size, 2, none⟩ = some (.int .i64 x.sb) := HX2.out.cell 2
  have s3 : w2.cell? ⟨w.heap.size, 3, none⟩ = some (.int .i64 x.dp) := HX2.out.cell 3
  go_wp2_with fail
  go_still_tail 14, (by kernel_rfl)
  rw [show (if 1099511627776 < r.nd + n * (x.nd - 1) then 1099511627776 else r.nd + n * (x.nd - 1)) = min (r.nd + n * (x.nd - 1)) 1099511627776 from by omega]
  change wpList _ _ _ _ _ w2.drew
  go_wp2_with fail
  have HB3 : Hid (Blk (w2.setCell ⟨rb, 1, none⟩ (.int .i64 (min (r.nd + n * (x.nd - 1)) 1099511627776))).drew rb 97 [.int .i64 (min (r.sb + n * x.sb) 1099511627776), .int .i64 (min (r.nd + n * (x.nd - 1)) 1099511627776), .int .i64 r.dp, .int .i64 r.last.kd, .int .i64 r.last.nd, .int .i64 r.last.sb, .int .i64 r.last.dp]) := Lib.hid ((HB2.out.set_ 1 (.int .i64 (min (r.nd + n * (x.nd - 1)) 1099511627776))).drew)
  have HX3 : Hid (Blk (w2.setCell ⟨rb, 1, none⟩ (.int .i64 (min (r.nd + n * (x.nd - 1)) 1099511627776))).drew w.heap.size 69 [.int .i64 x.kd, .int .i64 x.nd, .int .i64 x.sb, .int .i64 x.dp]) := Lib.hid ((HX2.out.kept (Kept.setCell ⟨rb, 1, none⟩ _) (by simp; omega)).drew)
  have HK3 : Hid (Kept w (w2.setCell ⟨rb, 1, none⟩ (.int .i64 (min (r.nd + n * (x.nd - 1)) 1099511627776))).drew [rb]) := Lib.hid (((HK2.out.trans (Kept.setCell ⟨rb, 1, none⟩ _)).trans (Kept.drew (L := []))).more (by intro k hk; simp at hk; exact .inl (by simp [hk])))
  clear c0 c1 c2 c3 c4 c5 c6 fz0 fz1 fz2 fz3 fz4 fz5 fz6 s0 s1 s2 s3
  generalize (w2.setCell ⟨rb, 1, none⟩ (.int .i64 (min (r.nd + n * (x.nd - 1)) 1099511627776))).drew = w3 at *
  have c0 : w3.cell? ⟨rb, 0, none⟩ = some (.int .i64 (min (r.sb + n * x.sb) 1099511627776)) := HB3.out.cell 0
  have c1 : w3.cell? ⟨rb, 1, none⟩ = some (.int .i64 (min (r.nd + n * (x.nd - 1)) 1099511627776)) := HB3.out.cell 1
  have c2 : w3.cell? ⟨rb, 2, none⟩ = some (.int .i64 r.dp) := HB3.out.cell 2
  have c3 : w3.cell? ⟨rb, 3, none⟩ = some (.int .i64 r.last.kd) := HB3.out.cell 3
  have c4 : w3.cell? ⟨rb, 4, none⟩ = some (.int .i64 r.last.nd) := HB3.out.cell 4
  have c5 : w3.cell? ⟨rb, 5, none⟩ = some (.int .i64 r.last.sb) := HB3.out.cell 5
  have c6 : w3.cell? ⟨rb, 6, none⟩ = some (.int .i64 r.last.dp) := HB3.out.cell 6
  have fz0 := HB3.out.frozen 0
  have fz1 := HB3.out.frozen 1
  have fz2 := HB3.out.frozen 2
  have fz3 := HB3.out.frozen 3
  have fz4 := HB3.out.frozen 4
  have fz5 := HB3.out.frozen 5
  have fz6 := HB3.out.frozen 6
  have s0 : w3.cell? ⟨w.heap.size, 0, none⟩ = some (.int .i64 x.kd) := HX3.out.cell 0
  have s1 : w3.cell? ⟨w.heap.size, 1, none⟩ = some (.int .i64 x.nd) := HX3.out.cell 1
  have s2 : w3.cell? ⟨w.heap.size, 2, none⟩ = some (.int .i64 x.sb) := HX3.out.cell 2
  have s3 : w3.cell? ⟨w.heap.size, 3, none⟩ = some (.int .i64 x.dp) := HX3.out.cell 3
  go_wp2_with fail
  go_still_tail 11, (by kernel_rfl)
  rw [show (if r.dp < x.dp - 1 then x.dp - 1 else r.dp) = max r.dp (x.dp - 1) from by omega]
  change wpList _ _ _ _ _ w3.drew
  go_wp2_with fail
  have HB4 : Hid (Blk (w3.setCell ⟨rb, 2, none⟩ (.int .i64 (max r.dp (x.dp - 1)))).drew rb 97 [.int .i64 (min (r.sb + n * x.sb) 1099511627776), .int .i64 (min (r.nd + n * (x.nd - 1)) 1099511627776), .int .i64 (max r.dp (x.dp - 1)), .int .i64 r.last.kd, .int .i64 r.last.nd, .int .i64 r.last.sb, .int .i64 r.last.dp]) := Lib.hid ((HB3.out.set_ 2 (.int .i64 (max r.dp (x.dp - 1)))).drew)
  have HX4 : Hid (Blk (w3.setCell ⟨rb, 2, none⟩ (.int .i64 (max r.dp (x.dp - 1)))).drew w.heap.size 69 [.int .i64 x.kd, .int .i64 x.nd, .int .i64 x.sb, .int .i64 x.dp]) := Lib.hid ((HX3.out.kept (Kept.setCell ⟨rb, 2, none⟩ _) (by simp; omega)).drew)
  have HK4 : Hid (Kept w (w3.setCell ⟨rb, 2, none⟩ (.int .i64 (max r.dp (x.dp - 1)))).drew [rb]) := Lib.hid (((HK3.out.trans (Kept.setCell ⟨rb, 2, none⟩ _)).trans (Kept.drew (L := []))).more (by intro k hk; simp at hk; exact .inl (by simp [hk])))
  clear c0 c1 c2 c3 c4 c5 c6 fz0 fz1 fz2 fz3 fz4 fz5 fz6 s0 s1 s2 s3
  generalize (w3.setCell ⟨rb, 2, none⟩ (.int .i64 (max r.dp (x.dp - 1)))).drew = w4 at *
  go_wp2_with fail
  refine bodyPost_ret (results_none rfl _ _ _) rfl ?_
  exact ⟨rfl, by rw [show addR r x n x.kd = ⟨min (r.sb + n * x.sb) lidN, min (r.nd + n * (x.nd - 1)) lidN, max r.dp (x.dp - 1), r.last⟩ from by rw [addR, if_neg hn0, if_pos rfl]]; exact HB4.out, HK4.out⟩
set_option maxRecDepth 100000 in
set_option maxHeartbeats 2000000 in
theorem add7_other (r : Rw) (x : Sm) (n flat d : Int) (w : World) (rb : Nat) (hb : Blk w rb 97 (rwV7 r)) (hr : BR r d) (hx : BS x d) (hd : d ≤ 1000000000) (hn : 1 ≤ n ∧ n ≤ 1000) (hf : x.kd ≠ flat) :
    Calls Try.prog 47 #[.pointer (some ⟨rb, 0, none⟩), sv7 x, .int .i64 n, .int .i64 flat] w fun e w' => e = .returned (.tuple #[]) ∧ Blk w' rb 97 (rwV7 (addR r x n flat)) ∧ Kept w w' [rb] := by
  have hfb : (x.kd == flat) = false := by simpa using hf
  obtain ⟨hk, hxn, hs, hdp⟩ := hx
  obtain ⟨hrn, hrs, hrd, -⟩ := hr
  have hlid : lidN = 1099511627776 := rfl
  rw [hlid] at hxn hs hrn hrs
  clear hlid
  have hrb := hb.lt
  have HB1 := Lib.hid (hb.alloc (.cells #[.int .i64 x.kd, .int .i64 x.nd, .int .i64 x.sb, .int .i64 x.dp] 69))
  have HX1 := Lib.hid (Blk.new w 69 [.int .i64 x.kd, .int .i64 x.nd, .int .i64 x.sb, .int .i64 x.dp])
  have HK1 := Lib.hid (Kept.alloc (w := w) (L := [rb]) (.cells #[.int .i64 x.kd, .int .i64 x.nd, .int .i64 x.sb, .int .i64 x.dp] 69))
  have hm1 := mul7 (n := n) (b := x.sb) (by omega) (by omega)
  have hm2 := mul7 (n := n) (b := x.nd - 1) (by omega) (by omega)
  have hm3 := mul7 (n := n) (b := x.nd) (by omega) (by omega)
  have hw1 : IntKind.i64.wrap (n * x.sb) = n * x.sb := wrI7 (by omega)
  have hw2 : IntKind.i64.wrap (n * (x.nd - 1)) = n * (x.nd - 1) := wrI7 (by omega)
  have hw3 : IntKind.i64.wrap (n * x.nd) = n * x.nd := wrI7 (by omega)
  have hw4 : IntKind.i64.wrap (r.sb + n * x.sb) = r.sb + n * x.sb := wrI7 (by omega)
  have hw5 : IntKind.i64.wrap (r.nd + n * (x.nd - 1)) = r.nd + n * (x.nd - 1) := wrI7 (by omega)
  have hw6 : IntKind.i64.wrap (r.nd + n * x.nd) = r.nd + n * x.nd := wrI7 (by omega)
  have hw7 : IntKind.i64.wrap (r.sb + n) = r.sb + n := wrI7 (by omega)
  have hw8 : IntKind.i64.wrap (x.nd - 1) = x.nd - 1 := wrI7 (by omega)
  have hw9 : IntKind.i64.wrap (x.dp - 1) = x.dp - 1 := wrI7 (by omega)
  have hb0 := hb
  clear hb
  have hnz : (n == 0) = false := by simp; omega
  have hn0 : ¬ (n = 0) := by omega
  simp only [sv7, smV7]
  have s0' : (w.alloc (.cells #[.int .i64 x.kd, .int .i64 x.nd, .int .i64 x.sb, .int .i64 x.dp] 69)).cell? ⟨w.heap.size, 0, none⟩ = some (.int .i64 x.kd) := HX1.out.cell 0
  go_enter Try.func47, Try.ntmps47
  have c0 : (w.alloc (.cells #[.int .i64 x.kd, .int .i64 x.nd, .int .i64 x.sb, .int .i64 x.dp] 69)).cell? ⟨rb, 0, none⟩ = some (.int .i64 r.sb) := HB1.out.cell 0
  have c1 : (w.alloc (.cells #[.int .i64 x.kd, .int .i64 x.nd, .int .i64 x.sb, .int .i64 x.dp] 69)).cell? ⟨rb, 1, none⟩ = some (.int .i64 r.nd) := HB1.out.cell 1
  have c2 : (w.alloc (.cells #[.int .i64 x.kd, .int .i64 x.nd, .int .i64 x.sb, .int .i64 x.dp] 69)).cell? ⟨rb, 2, none⟩ = some (.int .i64 r.dp) := HB1.out.cell 2
  have c3 : (w.alloc (.cells #[.int .i64 x.kd, .int .i64 x.nd, .int .i64 x.sb, .int .i64 x.dp] 69)).cell? ⟨rb, 3, none⟩ = some (.int .i64 r.last.kd) := HB1.out.cell 3
  have c4 : (w.alloc (.cells #[.int .i64 x.kd, .int .i64 x.nd, .int .i64 x.sb, .int .i64 x.dp] 69)).cell? ⟨rb, 4, none⟩ = some (.int .i64 r.last.nd) := HB1.out.cell 4
  have c5 : (w.alloc (.cells #[.int .i64 x.kd, .int .i64 x.nd, .int .i64 x.sb, .int .i64 x.dp] 69)).cell? ⟨rb, 5, none⟩ = some (.int .i64 r.last.sb) := HB1.out.cell 5
  have c6 : (w.alloc (.cells #[.int .i64 x.kd, .int .i64 x.nd, .int .i64 x.sb, .int .i64 x.dp] 69)).cell? ⟨rb, 6, none⟩ = some (.int .i64 r.last.dp) := HB1.out.cell 6
  have fz0 := HB1.out.frozen 0
  have fz1 := HB1.out.frozen 1
  have fz2 := HB1.out.frozen 2
  have fz3 := HB1.out.frozen 3
  have fz4 := HB1.out.frozen 4
  have fz5 := HB1.out.frozen 5
  have fz6 := HB1.out.frozen 6
  have s0 : (w.alloc (.cells #[.int .i64 x.kd, .int .i64 x.nd, .int .i64 x.sb, .int .i64 x.dp] 69)).cell? ⟨w.heap.size, 0, none⟩ = some (.int .i64 x.kd) := HX1.out.cell 0
  have s1 : (w.alloc (.cells #[.int .i64 x.kd, .int .i64 x.nd, .int .i64 x.sb, .int .i64 x.dp] 69)).cell? ⟨w.heap.size, 1, none⟩ = some (.int .i64 x.nd) := HX1.out.cell 1
  have s2 : (w.alloc (.cells #[.int .i64 x.kd, .int .i64 x.nd, .int .i64 x.sb, .int .i64 x.dp] 69)).cell? ⟨w.heap.size, 2, none⟩ = some (.int .i64 x.sb) := HX1.out.cell 2
  have s3 : (w.alloc (.cells #[.int .i64 x.kd, .int .i64 x.nd, .int .i64 x.sb, .int .i64 x.dp] 69)).cell? ⟨w.heap.size, 3, none⟩ = some (.int .i64 x.dp) := HX1.out.cell 3
  have hmn : (if 1099511627776 < r.sb + n then 1099511627776 else r.sb + n) = min (r.sb + n) 1099511627776 := by omega
  go_wp2_with fail
  have hsz : (w.setCell ⟨rb, 0, none⟩ (.int .i64 (min (r.sb + n) 1099511627776))).heap.size = w.heap.size := by simp [World.setCell]
  have HB2 : Hid (Blk ((w.setCell ⟨rb, 0, none⟩ (.int .i64 (min (r.sb + n) 1099511627776))).alloc (.cells #[.int .i64 x.kd, .int .i64 x.nd, .int .i64 x.sb, .int .i64 x.dp] 69)) rb 97 [.int .i64 (min (r.sb + n) 1099511627776), .int .i64 r.nd, .int .i64 r.dp, .int .i64 r.last.kd, .int .i64 r.last.nd, .int .i64 r.last.sb, .int .i64 r.last.dp]) := Lib.hid ((hb0.set_ 0 (.int .i64 (min (r.sb + n) 1099511627776))).alloc _)
  have HX2 : Hid (Blk ((w.setCell ⟨rb, 0, none⟩ (.int .i64 (min (r.sb + n) 1099511627776))).alloc (.cells #[.int .i64 x.kd, .int .i64 x.nd, .int .i64 x.sb, .int .i64 x.dp] 69)) w.heap.size 69 [.int .i64 x.kd, .int .i64 x.nd, .int .i64 x.sb, .int .i64 x.dp]) := Lib.hid (by have := Blk.new (w.setCell ⟨rb, 0, none⟩ (.int .i64 (min (r.sb + n) 1099511627776))) 69 [.int .i64 x.kd, .int .i64 x.nd, .int .i64 x.sb, .int .i64 x.dp]; rw [hsz] at this; exact this)
  have HK2 : Hid (Kept w ((w.setCell ⟨rb, 0, none⟩ (.int .i64 (min (r.sb + n) 1099511627776))).alloc (.cells #[.int .i64 x.kd, .int .i64 x.nd, .int .i64 x.sb, .int .i64 x.dp] 69)) [rb]) := Lib.hid (((Kept.setCell ⟨rb, 0, none⟩ _).trans (Kept.alloc (L := []) _)).more (by intro k hk; simp at hk; exact .inl (by simp [hk])))
  clear c0 c1 c2 c3 c4 c5 c6 fz0 fz1 fz2 fz3 fz4 fz5 fz6 s0 s1 s2 s3
  clear HB1 HX1 HK1 hb0 hsz
  generalize ((w.setCell ⟨rb, 0, none⟩ (.int .i64 (min (r.sb + n) 1099511627776))).alloc (.cells #[.int .i64 x.kd, .int .i64 x.nd, .int .i64 x.sb, .int .i64 x.dp] 69)) = w2 at *
  have c0 : w2.cell? ⟨rb, 0, none⟩ = some (.int .i64 (min (r.sb + n) 1099511627776)) := HB2.out.cell 0
  have c1 : w2.cell? ⟨rb, 1, none⟩ = some (.int .i64 r.nd) := HB2.out.cell 1
  have c2 : w2.cell? ⟨rb, 2, none⟩ = some (.int .i64 r.dp) := HB2.out.cell 2
  have c3 : w2.cell? ⟨rb, 3, none⟩ = some (.int .i64 r.last.kd) := HB2.out.cell 3
  have c4 : w2.cell? ⟨rb, 4, none⟩ = some (.int .i64 r.last.nd) := HB2.out.cell 4
  have c5 : w2.cell? ⟨rb, 5, none⟩ = some (.int .i64 r.last.sb) := HB2.out.cell 5
  have c6 : w2.cell? ⟨rb, 6, none⟩ = some (.int .i64 r.last.dp) := HB2.out.cell 6
  have fz0 := HB2.out.frozen 0
  have fz1 := HB2.out.frozen 1
  have fz2 := HB2.out.frozen 2
  have fz3 := HB2.out.frozen 3
  have fz4 := HB2.out.frozen 4
  have fz5 := HB2.out.frozen 5
  have fz6 := HB2.out.frozen 6
  have s0 : w2.cell? ⟨w.heap.size, 0, none⟩ = some (.int .i64 x.kd) := HX2.out.cell 0
  have s1 : w2.cell? ⟨w.heap.size, 1, none⟩ = some (.int .i64 x.nd) := HX2.out.cell 1
  have s2 : w2.cell? ⟨w.heap.size, 2, none⟩ = some (.int .i64 x.sb) := HX2.out.cell 2
  have s3 : w2.cell? ⟨w.heap.size, 3, none⟩ = some (.int .i64 x.dp) := HX2.out.cell 3
  go_still_tail 13, (by kernel_rfl)
  rw [show (if 1099511627776 < r.nd + n * x.nd then 1099511627776 else r.nd + n * x.nd) = min (r.nd + n * x.nd) 1099511627776 from by omega]
  change wpList _ _ _ _ _ w2.drew
  go_wp2_with fail
  have HB3 : Hid (Blk (w2.setCell ⟨rb, 1, none⟩ (.int .i64 (min (r.nd + n * x.nd) 1099511627776))).drew rb 97 [.int .i64 (min (r.sb + n) 1099511627776), .int .i64 (min (r.nd + n * x.nd) 1099511627776), .int .i64 r.dp, .int .i64 r.last.kd, .int .i64 r.last.nd, .int .i64 r.last.sb, .int .i64 r.last.dp]) := Lib.hid ((HB2.out.set_ 1 (.int .i64 (min (r.nd + n * x.nd) 1099511627776))).drew)
  have HX3 : Hid (Blk (w2.setCell ⟨rb, 1, none⟩ (.int .i64 (min (r.nd + n * x.nd) 1099511627776))).drew w.heap.size 69 [.int .i64 x.kd, .int .i64 x.nd, .int .i64 x.sb, .int .i64 x.dp]) := Lib.hid ((HX2.out.kept (Kept.setCell ⟨rb, 1, none⟩ _) (by simp; omega)).drew)
  have HK3 : Hid (Kept w (w2.setCell ⟨rb, 1, none⟩ (.int .i64 (min (r.nd + n * x.nd) 1099511627776))).drew [rb]) := Lib.hid (((HK2.out.trans (Kept.setCell ⟨rb, 1, none⟩ _)).trans (Kept.drew (L := []))).more (by intro k hk; simp at hk; exact .inl (by simp [hk])))
  clear c0 c1 c2 c3 c4 c5 c6 fz0 fz1 fz2 fz3 fz4 fz5 fz6 s0 s1 s2 s3
  generalize (w2.setCell ⟨rb, 1, none⟩ (.int .i64 (min (r.nd + n * x.nd) 1099511627776))).drew = w3 at *
  have c0 : w3.cell? ⟨rb, 0, none⟩ = some (.int .i64 (min (r.sb + n) 1099511627776)) := HB3.out.cell 0
  have c1 : w3.cell? ⟨rb, 1, none⟩ = some (.int .i64 (min (r.nd + n * x.nd) 1099511627776)) := HB3.out.cell 1
  have c2 : w3.cell? ⟨rb, 2, none⟩ = some (.int .i64 r.dp) := HB3.out.cell 2
  have c3 : w3.cell? ⟨rb, 3, none⟩ = some (.int .i64 r.last.kd) := HB3.out.cell 3
  have c4 : w3.cell? ⟨rb, 4, none⟩ = some (.int .i64 r.last.nd) := HB3.out.cell 4
  have c5 : w3.cell? ⟨rb, 5, none⟩ = some (.int .i64 r.last.sb) := HB3.out.cell 5
  have c6 : w3.cell? ⟨rb, 6, none⟩ = some (.int .i64 r.last.dp) := HB3.out.cell 6
  have fz0 := HB3.out.frozen 0
  have fz1 := HB3.out.frozen 1
  have fz2 := HB3.out.frozen 2
  have fz3 := HB3.out.frozen 3
  have fz4 := HB3.out.frozen 4
  have fz5 := HB3.out.frozen 5
  have fz6 := HB3.out.frozen 6
  have s0 : w3.cell? ⟨w.heap.size, 0, none⟩ = some (.int .i64 x.kd) := HX3.out.cell 0
  have s1 : w3.cell? ⟨w.heap.size, 1, none⟩ = some (.int .i64 x.nd) := HX3.out.cell 1
  have s2 : w3.cell? ⟨w.heap.size, 2, none⟩ = some (.int .i64 x.sb) := HX3.out.cell 2
  have s3 : w3.cell? ⟨w.heap.size, 3, none⟩ = some (.int .i64 x.dp) := HX3.out.cell 3
  go_wp2_with fail
  go_still_tail 10, (by kernel_rfl)
  rw [show (if r.dp < x.dp then x.dp else r.dp) = max r.dp x.dp from by omega]
  change wpList _ _ _ _ _ w3.drew
  go_wp2_with fail
  go_end0
  have HB5 : Blk (((((w3.setCell ⟨rb, 2, none⟩ (.int .i64 (max r.dp x.dp))).setCell ⟨rb, 3, none⟩ (.int .i64 x.kd)).setCell ⟨rb, 4, none⟩ (.int .i64 x.nd)).setCell ⟨rb, 5, none⟩ (.int .i64 x.sb)).setCell ⟨rb, 6, none⟩ (.int .i64 x.dp)).drew rb 97 [.int .i64 (min (r.sb + n) 1099511627776), .int .i64 (min (r.nd + n * x.nd) 1099511627776), .int .i64 (max r.dp x.dp), .int .i64 x.kd, .int .i64 x.nd, .int .i64 x.sb, .int .i64 x.dp] := ((((((HB3.out.set_ 2 (.int .i64 (max r.dp x.dp))).set_ 3 (.int .i64 x.kd)).set_ 4 (.int .i64 x.nd)).set_ 5 (.int .i64 x.sb)).set_ 6 (.int .i64 x.dp)).drew)
  have HK5 : Kept w (((((w3.setCell ⟨rb, 2, none⟩ (.int .i64 (max r.dp x.dp))).setCell ⟨rb, 3, none⟩ (.int .i64 x.kd)).setCell ⟨rb, 4, none⟩ (.int .i64 x.nd)).setCell ⟨rb, 5, none⟩ (.int .i64 x.sb)).setCell ⟨rb, 6, none⟩ (.int .i64 x.dp)).drew [rb] := ((((((HK3.out.trans (Kept.setCell ⟨rb, 2, none⟩ _)).trans (Kept.setCell ⟨rb, 3, none⟩ _)).trans (Kept.setCell ⟨rb, 4, none⟩ _)).trans (Kept.setCell ⟨rb, 5, none⟩ _)).trans (Kept.setCell ⟨rb, 6, none⟩ _)).trans (Kept.drew (L := []))).more (by intro k hk; simp at hk; exact .inl (by simp [hk]))
  exact ⟨rfl, by rw [show addR r x n flat = ⟨min (r.sb + n) lidN, min (r.nd + n * x.nd) lidN, max r.dp x.dp, x⟩ from by rw [addR, if_neg hn0, if_neg hf]]; exact HB5, HK5⟩
end Go.Proofs.Ytfgelkfnbohmmaa
/- heronref07: row.add, join, joined. -/
namespace Go.Proofs.Ytfgelkfnbohmmaa
open Go.RowKit Go.Proofs.Ytfgelkfnbohmmaa.Tr

set_option maxRecDepth 100000 in
set_option maxHeartbeats 1000000 in
theorem add7_zero (r : Rw) (x : Sm) (flat : Int) (w : World) (rb : Nat) (hb : Blk w rb 97 (rwV7 r)) :
    Calls Try.prog 47 #[.pointer (some ⟨rb, 0, none⟩), sv7 x, .int .i64 0, .int .i64 flat] w fun e w' => e = .returned (.tuple #[]) ∧ Blk w' rb 97 (rwV7 (addR r x 0 flat)) ∧ Kept w w' [rb] := by
  have HB := Lib.hid (hb.alloc (.cells #[.int .i64 x.kd, .int .i64 x.nd, .int .i64 x.sb, .int .i64 x.dp] 69))
  have HK := Lib.hid (Kept.alloc (w := w) (L := [rb]) (.cells #[.int .i64 x.kd, .int .i64 x.nd, .int .i64 x.sb, .int .i64 x.dp] 69))
  clear hb
  simp only [sv7, smV7]
  go_enter Try.func47, Try.ntmps47
  go_wp2_with fail
  refine bodyPost_ret (results_none rfl _ _ _) rfl ?_
  exact ⟨rfl, HB.out, HK.out⟩
/-- row.add. -/
theorem add7_any (r : Rw) (x : Sm) (n flat d : Int) (w : World) (rb : Nat) (hb : Blk w rb 97 (rwV7 r)) (hr : BR r d) (hx : BS x d) (hd : d ≤ 1000000000) (hn : 0 ≤ n ∧ n ≤ 1000) :
    Calls Try.prog 47 #[.pointer (some ⟨rb, 0, none⟩), sv7 x, .int .i64 n, .int .i64 flat] w fun e w' => e = .returned (.tuple #[]) ∧ Blk w' rb 97 (rwV7 (addR r x n flat)) ∧ Kept w w' [rb] := by
  by_cases h0 : n = 0
  · subst h0; exact add7_zero r x flat w rb hb
  by_cases hf : x.kd = flat
  · exact add7_flat r x n flat d w rb hb hr hx hd (by omega) hf
  · exact add7_other r x n flat d w rb hb hr hx hd (by omega) hf
set_option maxRecDepth 100000 in
set_option maxHeartbeats 1000000 in
theorem join7_any (r : Rw) (x : Sm) (n d : Int) (w : World) (rb : Nat) (hb : Blk w rb 97 (rwV7 r)) (hr : BR r d) (hx : BS x d) (hd : d ≤ 1000000000) (hn : 0 ≤ n ∧ n ≤ 1000) :
    Calls Try.prog 46 #[.pointer (some ⟨rb, 0, none⟩), sv7 x, .int .i64 n] w fun e w' => e = .returned (.tuple #[]) ∧ Blk w' rb 97 (rwV7 (joinR r x n)) ∧ Kept w w' [rb] := by
  have hba := hb.alloc (.cells #[.int .i64 x.kd, .int .i64 x.nd, .int .i64 x.sb, .int .i64 x.dp] 69)
  have HA := Lib.hid (add7_any r x n 4 d (w.alloc (.cells #[.int .i64 x.kd, .int .i64 x.nd, .int .i64 x.sb, .int .i64 x.dp] 69)) rb hba hr hx hd hn)
  have HX := Lib.hid (Blk.new w 69 [.int .i64 x.kd, .int .i64 x.nd, .int .i64 x.sb, .int .i64 x.dp])
  have HB := Lib.hid hba
  have HK := Lib.hid (Kept.alloc (w := w) (L := [rb]) (.cells #[.int .i64 x.kd, .int .i64 x.nd, .int .i64 x.sb, .int .i64 x.dp] 69))
  clear hb hba hr hx
  simp only [sv7, smV7] at HA
  simp only [sv7, smV7]
  have s0 : (w.alloc (.cells #[.int .i64 x.kd, .int .i64 x.nd, .int .i64 x.sb, .int .i64 x.dp] 69)).cell? ⟨w.heap.size, 0, none⟩ = some (.int .i64 x.kd) := HX.out.cell 0
  have s1 : (w.alloc (.cells #[.int .i64 x.kd, .int .i64 x.nd, .int .i64 x.sb, .int .i64 x.dp] 69)).cell? ⟨w.heap.size, 1, none⟩ = some (.int .i64 x.nd) := HX.out.cell 1
  have s2 : (w.alloc (.cells #[.int .i64 x.kd, .int .i64 x.nd, .int .i64 x.sb, .int .i64 x.dp] 69)).cell? ⟨w.heap.size, 2, none⟩ = some (.int .i64 x.sb) := HX.out.cell 2
  have s3 : (w.alloc (.cells #[.int .i64 x.kd, .int .i64 x.nd, .int .i64 x.sb, .int .i64 x.dp] 69)).cell? ⟨w.heap.size, 3, none⟩ = some (.int .i64 x.dp) := HX.out.cell 3
  by_cases hk : x.kd = 1
  · have hkb : (x.kd != 1) = false := by simpa using hk
    have HKD := Lib.hid hk
    clear hk
    go_enter Try.func46, Try.ntmps46
    go_wp2_with fail
    go_end0
    exact ⟨rfl, by rw [joinR, if_neg (by simpa using HKD.out)]; exact HB.out, HK.out⟩
  · have hkb : (x.kd != 1) = true := by simpa using hk
    go_enter Try.func46, Try.ntmps46
    go_wp2_with fail
    refine HA.out.mono ?_
    rintro e w2 ⟨rfl, hb2, hk2⟩
    have HB2 := Lib.hid hb2
    have HK2 := Lib.hid ((HK.out.trans hk2).more (M := [rb]) (by intro k hk; simp at hk; exact .inl (by simp [hk])))
    clear hb2 hk2
    simp only []
    go_wp2_with fail
    go_end0
    exact ⟨rfl, by rw [joinR, if_pos hk]; exact HB2.out, HK2.out⟩
set_option maxRecDepth 100000 in
set_option maxHeartbeats 1000000 in
theorem joined7_any (r : Rw) (d : Int) (w : World) (rb : Nat) (hb : Blk w rb 97 (rwV7 r)) (hr : BR r d) (hd : d ≤ 1000000000) :
    Calls Try.prog 48 #[.pointer (some ⟨rb, 0, none⟩)] w fun e w' => e = .returned (sv7 (joinedR r)) ∧ Below w.heap.size w w' := by
  obtain ⟨hrn, hrs, hrd, -⟩ := hr
  have hlid : lidN = 1099511627776 := rfl
  rw [hlid] at hrn hrs
  clear hlid
  have hrb := hb.lt
  have HB0 := Lib.hid (hb.alloc (.cells #[.int .i64 0, .int .i64 0, .int .i64 0, .int .i64 0] 69))
  have HZ := Lib.hid (Blk.new w 69 [.int .i64 0, .int .i64 0, .int .i64 0, .int .i64 0])
  have HBE := Lib.hid (show Below w.heap.size w (w.alloc (.cells #[.int .i64 0, .int .i64 0, .int .i64 0, .int .i64 0] 69)) from (Below.refl _ _).alloc (Nat.le_refl _) _)
  have c0 : (w.alloc (.cells #[.int .i64 0, .int .i64 0, .int .i64 0, .int .i64 0] 69)).cell? ⟨rb, 0, none⟩ = some (.int .i64 r.sb) := HB0.out.cell 0
  have c1 : (w.alloc (.cells #[.int .i64 0, .int .i64 0, .int .i64 0, .int .i64 0] 69)).cell? ⟨rb, 1, none⟩ = some (.int .i64 r.nd) := HB0.out.cell 1
  have c2 : (w.alloc (.cells #[.int .i64 0, .int .i64 0, .int .i64 0, .int .i64 0] 69)).cell? ⟨rb, 2, none⟩ = some (.int .i64 r.dp) := HB0.out.cell 2
  have c3 : (w.alloc (.cells #[.int .i64 0, .int .i64 0, .int .i64 0, .int .i64 0] 69)).cell? ⟨rb, 3, none⟩ = some (.int .i64 r.last.kd) := HB0.out.cell 3
  have c4 : (w.alloc (.cells #[.int .i64 0, .int .i64 0, .int .i64 0, .int .i64 0] 69)).cell? ⟨rb, 4, none⟩ = some (.int .i64 r.last.nd) := HB0.out.cell 4
  have c5 : (w.alloc (.cells #[.int .i64 0, .int .i64 0, .int .i64 0, .int .i64 0] 69)).cell? ⟨rb, 5, none⟩ = some (.int .i64 r.last.sb) := HB0.out.cell 5
  have c6 : (w.alloc (.cells #[.int .i64 0, .int .i64 0, .int .i64 0, .int .i64 0] 69)).cell? ⟨rb, 6, none⟩ = some (.int .i64 r.last.dp) := HB0.out.cell 6
  clear hb
  by_cases h0 : r.sb = 0
  · have hj : joinedR r = emptyS := by rw [joinedR, if_pos h0]
    rw [h0] at c0
    rw [hj]
    have HE := Lib.hid (empty7_any (w.alloc (.cells #[.int .i64 0, .int .i64 0, .int .i64 0, .int .i64 0] 69)))
    simp only [sv7, smV7, emptyS] at HE
    simp only [sv7, smV7, emptyS]
    clear h0 hj
    go_enter Try.func48, Try.ntmps48
    go_wp2_with fail
    refine HE.out.mono ?_
    rintro e w2 ⟨rfl, hb2⟩
    have HZ2 := Lib.hid (HZ.out.below hb2 HZ.out.lt)
    have HB2 := Lib.hid (HBE.out.trans (hb2.mono HBE.out.size))
    have z0 : w2.cell? ⟨w.heap.size, 0, none⟩ = some (.int .i64 0) := HZ2.out.cell 0
    have fz0 := HZ2.out.frozen 0
    have z1 : w2.cell? ⟨w.heap.size, 1, none⟩ = some (.int .i64 0) := HZ2.out.cell 1
    have fz1 := HZ2.out.frozen 1
    have z2 : w2.cell? ⟨w.heap.size, 2, none⟩ = some (.int .i64 0) := HZ2.out.cell 2
    have fz2 := HZ2.out.frozen 2
    have z3 : w2.cell? ⟨w.heap.size, 3, none⟩ = some (.int .i64 0) := HZ2.out.cell 3
    have fz3 := HZ2.out.frozen 3
    clear hb2
    simp only []
    go_wp2_with fail
    refine bodyPost_ret (sum_ret rfl _ _ w.heap.size _ _ _ _ rfl ((((HZ2.out.set_ 0 (.int .i64 1)).set_ 1 (.int .i64 1)).set_ 2 (.int .i64 0)).set_ 3 (.int .i64 1))) rfl ?_
    exact ⟨rfl, Below.kept HB2.out (kept4 w2 w.heap.size _ _ _ _) (by intro b hb; simp at hb; omega) HB2.out.size⟩
  have h0b : (r.sb == 0) = false := by simpa using h0
  by_cases h1 : r.sb = 1
  · have hj : joinedR r = r.last := by rw [joinedR, if_neg h0, if_pos h1]
    rw [h1] at c0
    rw [hj]
    simp only [sv7, smV7]
    have z0 : (w.alloc (.cells #[.int .i64 0, .int .i64 0, .int .i64 0, .int .i64 0] 69)).cell? ⟨w.heap.size, 0, none⟩ = some (.int .i64 0) := HZ.out.cell 0
    have fz0 := HZ.out.frozen 0
    have z1 : (w.alloc (.cells #[.int .i64 0, .int .i64 0, .int .i64 0, .int .i64 0] 69)).cell? ⟨w.heap.size, 1, none⟩ = some (.int .i64 0) := HZ.out.cell 1
    have fz1 := HZ.out.frozen 1
    have z2 : (w.alloc (.cells #[.int .i64 0, .int .i64 0, .int .i64 0, .int .i64 0] 69)).cell? ⟨w.heap.size, 2, none⟩ = some (.int .i64 0) := HZ.out.cell 2
    have fz2 := HZ.out.frozen 2
    have z3 : (w.alloc (.cells #[.int .i64 0, .int .i64 0, .int .i64 0, .int .i64 0] 69)).cell? ⟨w.heap.size, 3, none⟩ = some (.int .i64 0) := HZ.out.cell 3
    have fz3 := HZ.out.frozen 3
    clear h0 h0b h1 hj
    go_enter Try.func48, Try.ntmps48
    go_wp2_with fail
    refine bodyPost_ret (sum_ret rfl _ _ w.heap.size _ _ _ _ rfl (Blk.new w _ [_, _, _, _])) rfl ?_
    exact ⟨rfl, (Below.refl _ _).alloc (Nat.le_refl _) _⟩
  have h1b : (r.sb == 1) = false := by simpa using h1
  have hj : joinedR r = ⟨4, min (r.nd + 1) lidN, r.sb, r.dp + 1⟩ := by rw [joinedR, if_neg h0, if_neg h1]
  rw [hj]
  simp only [sv7, smV7]
  have hn1 : ¬ (rb = w.heap.size) := by omega
  have hw1 : IntKind.i64.wrap (r.nd + 1) = r.nd + 1 := wrI7 (by omega)
  have hw2 : IntKind.i64.wrap (r.dp + 1) = r.dp + 1 := wrI7 (by omega)
  have z0 : (w.alloc (.cells #[.int .i64 0, .int .i64 0, .int .i64 0, .int .i64 0] 69)).cell? ⟨w.heap.size, 0, none⟩ = some (.int .i64 0) := HZ.out.cell 0
  have fz0 := HZ.out.frozen 0
  have z1 : (w.alloc (.cells #[.int .i64 0, .int .i64 0, .int .i64 0, .int .i64 0] 69)).cell? ⟨w.heap.size, 1, none⟩ = some (.int .i64 0) := HZ.out.cell 1
  have fz1 := HZ.out.frozen 1
  have z2 : (w.alloc (.cells #[.int .i64 0, .int .i64 0, .int .i64 0, .int .i64 0] 69)).cell? ⟨w.heap.size, 2, none⟩ = some (.int .i64 0) := HZ.out.cell 2
  have fz2 := HZ.out.frozen 2
  have z3 : (w.alloc (.cells #[.int .i64 0, .int .i64 0, .int .i64 0, .int .i64 0] 69)).cell? ⟨w.heap.size, 3, none⟩ = some (.int .i64 0) := HZ.out.cell 3
  have fz3 := HZ.out.frozen 3
  clear h0 h1 hj
  go_enter Try.func48, Try.ntmps48
  go_wp2_with fail
  generalize (w.alloc (.cells #[.int .i64 0, .int .i64 0, .int .i64 0, .int .i64 0] 69)) = w1 at *
  go_still_tail 16, (by kernel_rfl)
  rw [show (if 1099511627776 < r.nd + 1 then 1099511627776 else r.nd + 1) = min (r.nd + 1) 1099511627776 from by omega]
  change wpList _ _ _ _ _ w1.drew
  go_wp2_with fail
  refine bodyPost_ret (sum_ret rfl _ _ w.heap.size _ _ _ _ rfl ((((HZ.out.set_ 0 (.int .i64 4)).set_ 1 (.int .i64 (min (r.nd + 1) 1099511627776))).set_ 2 (.int .i64 r.sb)).set_ 3 (.int .i64 (r.dp + 1))).drew) rfl ?_
  exact ⟨rfl, Below.kept HBE.out ((kept4 w1 w.heap.size _ _ _ _).trans (Kept.drew (L := []))) (by intro b hb; simp at hb; omega) HBE.out.size⟩
end Go.Proofs.Ytfgelkfnbohmmaa
