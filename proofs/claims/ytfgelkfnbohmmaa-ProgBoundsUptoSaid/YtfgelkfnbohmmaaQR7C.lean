/- heronref07.repeat. -/
import Derived.Test.YtfgelkfnbohmmaaQR7A
namespace Go.Proofs.Ytfgelkfnbohmmaa
open Go.RowKit Go.Proofs.Ytfgelkfnbohmmaa.Tr

/-- What stands while repeat reckons. -/
structure RS7 (w : World) (nd y : List Value) (rb : Nat) (r : Rw) (wr : World) : Prop where
  below : Below w.heap.size w wr
  node : Blk wr w.heap.size 25 nd
  yb : Blk wr (w.heap.size + 1) 69 y
  res : Blk wr (w.heap.size + 1 + 1) 69 [.int .i64 0, .int .i64 0, .int .i64 0, .int .i64 0]
  row : Blk wr rb 97 (rwV7 r)
  far : w.heap.size + 1 + 1 < rb
section
variable {w wr wq : World} {nd y : List Value} {rb : Nat} {r r' : Rw}
theorem RS7.bel (h : RS7 w nd y rb r wr) (hb : Below wr.heap.size wr wq) : RS7 w nd y rb r wq :=
  ⟨h.below.trans (hb.mono h.below.size), h.node.below hb h.node.lt, h.yb.below hb h.yb.lt, h.res.below hb h.res.lt, h.row.below hb h.row.lt, h.far⟩
theorem RS7.put (h : RS7 w nd y rb r wr) (hk : Kept wr wq [rb]) (hb : Blk wq rb 97 (rwV7 r')) : RS7 w nd y rb r' wq := by
  have hf := h.far
  exact ⟨Below.kept h.below hk (by intro b hb; simp at hb; omega) h.below.size, h.node.kept hk (by simp; omega), h.yb.kept hk (by simp; omega), h.res.kept hk (by simp; omega), hb, hf⟩
/-- Another block of the call's own, apart from the row's. -/
theorem RS7.other (_h : RS7 w nd y rb r wr) {b : Nat} {ty : TypeId} {cs : List Value} (hb : Blk wr b ty cs) (hn : b ≠ rb) (hk : Kept wr wq [rb]) : Blk wq b ty cs := hb.kept hk (by simpa using hn)
theorem RS7.free {g : Nat} (h : RS7 w nd y rb r wr) (hk : Kept wr wq [g]) (hg : w.heap.size + 1 + 1 < g ∧ g ≠ rb) : RS7 w nd y rb r wq :=
  ⟨Below.kept h.below hk (by intro b hb; simp at hb; omega) h.below.size, h.node.kept hk (by simp; omega), h.yb.kept hk (by simp; omega), h.res.kept hk (by simp; omega), h.row.kept hk (by simpa using hg.2.symm), h.far⟩
theorem rs7_start (w : World) (nd y : List Value) : RS7 w nd y (w.heap.size + 1 + 1 + 1) rw0 ((((w.alloc (.cells nd.toArray 25)).alloc (.cells y.toArray 69)).alloc (.cells #[.int .i64 0, .int .i64 0, .int .i64 0, .int .i64 0] 69)).alloc (.cells #[.int .i64 0, .int .i64 0, .int .i64 0, .int .i64 0, .int .i64 0, .int .i64 0, .int .i64 0] 97)) := by
  have hs1 : (w.alloc (.cells nd.toArray 25)).heap.size = w.heap.size + 1 := by simp
  have hs2 : ((w.alloc (.cells nd.toArray 25)).alloc (.cells y.toArray 69)).heap.size = w.heap.size + 1 + 1 := by simp
  have hs3 : (((w.alloc (.cells nd.toArray 25)).alloc (.cells y.toArray 69)).alloc (.cells #[.int .i64 0, .int .i64 0, .int .i64 0, .int .i64 0] 69)).heap.size = w.heap.size + 1 + 1 + 1 := by simp
  have a1 := Blk.new w 25 nd
  have a2 := Blk.new (w.alloc (.cells nd.toArray 25)) 69 y
  rw [hs1] at a2
  have a3 := Blk.new ((w.alloc (.cells nd.toArray 25)).alloc (.cells y.toArray 69)) 69 [.int .i64 0, .int .i64 0, .int .i64 0, .int .i64 0]
  rw [hs2] at a3
  have a4 := Blk.new (((w.alloc (.cells nd.toArray 25)).alloc (.cells y.toArray 69)).alloc (.cells #[.int .i64 0, .int .i64 0, .int .i64 0, .int .i64 0] 69)) 97 [.int .i64 0, .int .i64 0, .int .i64 0, .int .i64 0, .int .i64 0, .int .i64 0, .int .i64 0]
  rw [hs3] at a4
  refine ⟨(((((Below.refl _ _).alloc (Nat.le_refl _) _).alloc (by simp) _).alloc (by simp <;> omega) _).alloc (by simp <;> omega) _), ((a1.alloc _).alloc _).alloc _, (a2.alloc _).alloc _, a3.alloc _, a4, by omega⟩
end
set_option maxRecDepth 100000 in
set_option maxHeartbeats 2000000 in
theorem repeat7_more (k : Int) (r : List (Int × Int)) (ra : Option Addr) (rc : Nat) (ast : Int) (l : List Ta) (sa : Option Addr) (sc : Nat) (mn : Int) (z : Bool) (ix : Int) (nm : ByteArray) (y : Sm) (t0 : Tr.Tr) (d : Int) (w : World) (hx : BS y d) (hc : CS y t0) (ht : Tr.Good t0) (hd : 1 ≤ d ∧ d ≤ 500000000) (h0 : 0 ≤ mn ∧ mn ≤ 1000)  :
    Calls Try.prog 45 #[(Ta.mk k r ra rc ast l sa sc mn (-1) z ix nm).val, sv7 y] w fun e w' => e = .returned (sv7 (repR y mn (-1))) ∧ Below w.heap.size w w' := by
  have hrs := rs7_start w [.int .i64 k, .slice ra r.length rc, .int .i64 ast, .slice sa l.length sc, .int .i64 mn, .int .i64 (-1), .bool z, .int .i64 ix, .string nm] [.int .i64 y.kd, .int .i64 y.nd, .int .i64 y.sb, .int .i64 y.dp]
  have HRS := Lib.hid hrs
  have HOV := Lib.hid (over7_any 6 y d ((((w.alloc (.cells #[.int .i64 k, .slice ra r.length rc, .int .i64 ast, .slice sa l.length sc, .int .i64 mn, .int .i64 (-1), .bool z, .int .i64 ix, .string nm] 25)).alloc (.cells #[.int .i64 y.kd, .int .i64 y.nd, .int .i64 y.sb, .int .i64 y.dp] 69)).alloc (.cells #[.int .i64 0, .int .i64 0, .int .i64 0, .int .i64 0] 69)).alloc (.cells #[.int .i64 0, .int .i64 0, .int .i64 0, .int .i64 0, .int .i64 0, .int .i64 0, .int .i64 0] 97)) hx (by omega))
  have hlt := hrs.row.lt
  simp only [sv7, smV7, Ta.val, Ta.vals] at HOV ⊢
  have y0 : ((((w.alloc (.cells #[.int .i64 k, .slice ra r.length rc, .int .i64 ast, .slice sa l.length sc, .int .i64 mn, .int .i64 (-1), .bool z, .int .i64 ix, .string nm] 25)).alloc (.cells #[.int .i64 y.kd, .int .i64 y.nd, .int .i64 y.sb, .int .i64 y.dp] 69)).alloc (.cells #[.int .i64 0, .int .i64 0, .int .i64 0, .int .i64 0] 69)).alloc (.cells #[.int .i64 0, .int .i64 0, .int .i64 0, .int .i64 0, .int .i64 0, .int .i64 0, .int .i64 0] 97)).cell? ⟨w.heap.size + 1, 0, none⟩ = some (.int .i64 y.kd) := HRS.out.yb.cell 0
  have y1 : ((((w.alloc (.cells #[.int .i64 k, .slice ra r.length rc, .int .i64 ast, .slice sa l.length sc, .int .i64 mn, .int .i64 (-1), .bool z, .int .i64 ix, .string nm] 25)).alloc (.cells #[.int .i64 y.kd, .int .i64 y.nd, .int .i64 y.sb, .int .i64 y.dp] 69)).alloc (.cells #[.int .i64 0, .int .i64 0, .int .i64 0, .int .i64 0] 69)).alloc (.cells #[.int .i64 0, .int .i64 0, .int .i64 0, .int .i64 0, .int .i64 0, .int .i64 0, .int .i64 0] 97)).cell? ⟨w.heap.size + 1, 1, none⟩ = some (.int .i64 y.nd) := HRS.out.yb.cell 1
  have y2 : ((((w.alloc (.cells #[.int .i64 k, .slice ra r.length rc, .int .i64 ast, .slice sa l.length sc, .int .i64 mn, .int .i64 (-1), .bool z, .int .i64 ix, .string nm] 25)).alloc (.cells #[.int .i64 y.kd, .int .i64 y.nd, .int .i64 y.sb, .int .i64 y.dp] 69)).alloc (.cells #[.int .i64 0, .int .i64 0, .int .i64 0, .int .i64 0] 69)).alloc (.cells #[.int .i64 0, .int .i64 0, .int .i64 0, .int .i64 0, .int .i64 0, .int .i64 0, .int .i64 0] 97)).cell? ⟨w.heap.size + 1, 2, none⟩ = some (.int .i64 y.sb) := HRS.out.yb.cell 2
  have y3 : ((((w.alloc (.cells #[.int .i64 k, .slice ra r.length rc, .int .i64 ast, .slice sa l.length sc, .int .i64 mn, .int .i64 (-1), .bool z, .int .i64 ix, .string nm] 25)).alloc (.cells #[.int .i64 y.kd, .int .i64 y.nd, .int .i64 y.sb, .int .i64 y.dp] 69)).alloc (.cells #[.int .i64 0, .int .i64 0, .int .i64 0, .int .i64 0] 69)).alloc (.cells #[.int .i64 0, .int .i64 0, .int .i64 0, .int .i64 0, .int .i64 0, .int .i64 0, .int .i64 0] 97)).cell? ⟨w.heap.size + 1, 3, none⟩ = some (.int .i64 y.dp) := HRS.out.yb.cell 3
  have k4 : ((((w.alloc (.cells #[.int .i64 k, .slice ra r.length rc, .int .i64 ast, .slice sa l.length sc, .int .i64 mn, .int .i64 (-1), .bool z, .int .i64 ix, .string nm] 25)).alloc (.cells #[.int .i64 y.kd, .int .i64 y.nd, .int .i64 y.sb, .int .i64 y.dp] 69)).alloc (.cells #[.int .i64 0, .int .i64 0, .int .i64 0, .int .i64 0] 69)).alloc (.cells #[.int .i64 0, .int .i64 0, .int .i64 0, .int .i64 0, .int .i64 0, .int .i64 0, .int .i64 0] 97)).cell? ⟨w.heap.size, 4, none⟩ = some (.int .i64 mn) := HRS.out.node.cell 4
  have k5 : ((((w.alloc (.cells #[.int .i64 k, .slice ra r.length rc, .int .i64 ast, .slice sa l.length sc, .int .i64 mn, .int .i64 (-1), .bool z, .int .i64 ix, .string nm] 25)).alloc (.cells #[.int .i64 y.kd, .int .i64 y.nd, .int .i64 y.sb, .int .i64 y.dp] 69)).alloc (.cells #[.int .i64 0, .int .i64 0, .int .i64 0, .int .i64 0] 69)).alloc (.cells #[.int .i64 0, .int .i64 0, .int .i64 0, .int .i64 0, .int .i64 0, .int .i64 0, .int .i64 0] 97)).cell? ⟨w.heap.size, 5, none⟩ = some (.int .i64 (-1)) := HRS.out.node.cell 5
  clear hrs
  go_enter Try.func45, Try.ntmps45
  go_wp2_with fail
  generalize ((((w.alloc (.cells #[.int .i64 k, .slice ra r.length rc, .int .i64 ast, .slice sa l.length sc, .int .i64 mn, .int .i64 (-1), .bool z, .int .i64 ix, .string nm] 25)).alloc (.cells #[.int .i64 y.kd, .int .i64 y.nd, .int .i64 y.sb, .int .i64 y.dp] 69)).alloc (.cells #[.int .i64 0, .int .i64 0, .int .i64 0, .int .i64 0] 69)).alloc (.cells #[.int .i64 0, .int .i64 0, .int .i64 0, .int .i64 0, .int .i64 0, .int .i64 0, .int .i64 0] 97)) = w4 at *
  generalize hrb : w.heap.size + 1 + 1 + 1 = rb at *
  refine HOV.out.mono ?_
  rintro e w5 ⟨rfl, hb5⟩
  have HO5 := Lib.hid (HRS.out.bel hb5)
  obtain ⟨one, hone⟩ : ∃ q, q = overS 6 y := ⟨_, rfl⟩
  have HON := Lib.hid hone
  rw [← hone]
  have HO6 := Lib.hid (HO5.out.bel (wq := w5.alloc (.cells #[.int .i64 one.kd, .int .i64 one.nd, .int .i64 one.sb, .int .i64 one.dp] 69)) ((Below.refl _ _).alloc (Nat.le_refl _) _))
  have HQ6 := Lib.hid (Blk.new w5 69 [.int .i64 one.kd, .int .i64 one.nd, .int .i64 one.sb, .int .i64 one.dp])
  clear hb5 k4 k5 hone
  clear y0 y1 y2 y3
  have HBR1 := Lib.hid (BR.nil (d := d + 1) (by omega))
  have HY := Lib.hid (hx.more (e := d + 1) (by omega))
  have HOB : Hid (BS one (d + 1)) := Lib.hid (by rw [HON.out]; exact hx.over (.inl rfl))
  have HBR2 := Lib.hid (HBR1.out.join HY.out hc ht.1 (n := max (mn - 1) 0) (by omega))
  have HBR3 := Lib.hid (HBR2.out.join HOB.out (by rw [HON.out]; exact hc.rep 0 (-1) false) (rep_good ht false (.inl ⟨rfl, rfl⟩)).1 (n := 1) (by decide))
  have hwm : IntKind.i64.wrap (mn - 1) = mn - 1 := wrI7 (by omega)
  have hmx : (if mn - 1 < 0 then 0 else mn - 1) = max (mn - 1) 0 := by omega
  have HREP : Hid (repR y mn (-1) = joinedR (joinR (joinR rw0 y (max (mn - 1) 0)) one 1)) := Lib.hid (by rw [repR, if_pos rfl, HON.out])
  clear hx hc ht
  have hj1 := join7_any rw0 y (max (mn - 1) 0) (d + 1) (w5.alloc (.cells #[.int .i64 one.kd, .int .i64 one.nd, .int .i64 one.sb, .int .i64 one.dp] 69)) rb HO6.out.row HBR1.out HY.out (by omega) (by omega)
  simp only [sv7, smV7] at hj1
  have HJ1 := Lib.hid hj1
  have k4 : (w5.alloc (.cells #[.int .i64 one.kd, .int .i64 one.nd, .int .i64 one.sb, .int .i64 one.dp] 69)).cell? ⟨w.heap.size, 4, none⟩ = some (.int .i64 mn) := HO6.out.node.cell 4
  have k5 : (w5.alloc (.cells #[.int .i64 one.kd, .int .i64 one.nd, .int .i64 one.sb, .int .i64 one.dp] 69)).cell? ⟨w.heap.size, 5, none⟩ = some (.int .i64 (-1)) := HO6.out.node.cell 5
  have y0 : (w5.alloc (.cells #[.int .i64 one.kd, .int .i64 one.nd, .int .i64 one.sb, .int .i64 one.dp] 69)).cell? ⟨w.heap.size + 1, 0, none⟩ = some (.int .i64 y.kd) := HO6.out.yb.cell 0
  have y1 : (w5.alloc (.cells #[.int .i64 one.kd, .int .i64 one.nd, .int .i64 one.sb, .int .i64 one.dp] 69)).cell? ⟨w.heap.size + 1, 1, none⟩ = some (.int .i64 y.nd) := HO6.out.yb.cell 1
  have y2 : (w5.alloc (.cells #[.int .i64 one.kd, .int .i64 one.nd, .int .i64 one.sb, .int .i64 one.dp] 69)).cell? ⟨w.heap.size + 1, 2, none⟩ = some (.int .i64 y.sb) := HO6.out.yb.cell 2
  have y3 : (w5.alloc (.cells #[.int .i64 one.kd, .int .i64 one.nd, .int .i64 one.sb, .int .i64 one.dp] 69)).cell? ⟨w.heap.size + 1, 3, none⟩ = some (.int .i64 y.dp) := HO6.out.yb.cell 3
  have hlt5 := HO5.out.row.lt
  have hfar := HO5.out.far
  clear hj1
  simp only []
  go_wp2_with fail
  generalize (w5.alloc (.cells #[.int .i64 one.kd, .int .i64 one.nd, .int .i64 one.sb, .int .i64 one.dp] 69)) = w6 at *
  refine HJ1.out.mono ?_
  rintro e w7 ⟨rfl, hb7, hk7⟩
  have HO7 := Lib.hid (HO6.out.put hk7 hb7)
  have HQ7 := Lib.hid (HO6.out.other HQ6.out (by omega) hk7)
  have hj2 := join7_any _ one 1 (d + 1) w7 rb HO7.out.row HBR2.out HOB.out (by omega) (by omega)
  simp only [sv7, smV7] at hj2
  have HJ2 := Lib.hid hj2
  have o0 : w7.cell? ⟨w5.heap.size, 0, none⟩ = some (.int .i64 one.kd) := HQ7.out.cell 0
  have o1 : w7.cell? ⟨w5.heap.size, 1, none⟩ = some (.int .i64 one.nd) := HQ7.out.cell 1
  have o2 : w7.cell? ⟨w5.heap.size, 2, none⟩ = some (.int .i64 one.sb) := HQ7.out.cell 2
  have o3 : w7.cell? ⟨w5.heap.size, 3, none⟩ = some (.int .i64 one.dp) := HQ7.out.cell 3
  clear hb7 hk7 hj2 k4 k5 HJ1
  clear y0 y1 y2 y3
  simp only []
  go_wp2_with fail
  refine HJ2.out.mono ?_
  rintro e w8 ⟨rfl, hb8, hk8⟩
  have HO8 := Lib.hid (HO7.out.put hk8 hb8)
  obtain ⟨q, hq⟩ : ∃ q, q = joinedR (joinR (joinR rw0 y (max (mn - 1) 0)) one 1) := ⟨_, rfl⟩
  have hj3 := joined7_any _ (d + 1) w8 rb HO8.out.row HBR3.out (by omega)
  rw [← hq] at hj3
  simp only [sv7, smV7] at hj3
  have HJ3 := Lib.hid hj3
  have HEQ := Lib.hid hq
  clear hb8 hk8 hj3 hq o0 o1 o2 o3 HJ2
  simp only []
  go_wp2_with fail
  refine HJ3.out.mono ?_
  rintro e w9 ⟨rfl, hb9⟩
  have HO9 := Lib.hid (HO8.out.bel hb9)
  have z0 : w9.cell? ⟨w.heap.size + 1 + 1, 0, none⟩ = some (.int .i64 0) := HO9.out.res.cell 0
  have fz0 := HO9.out.res.frozen 0
  have z1 : w9.cell? ⟨w.heap.size + 1 + 1, 1, none⟩ = some (.int .i64 0) := HO9.out.res.cell 1
  have fz1 := HO9.out.res.frozen 1
  have z2 : w9.cell? ⟨w.heap.size + 1 + 1, 2, none⟩ = some (.int .i64 0) := HO9.out.res.cell 2
  have fz2 := HO9.out.res.frozen 2
  have z3 : w9.cell? ⟨w.heap.size + 1 + 1, 3, none⟩ = some (.int .i64 0) := HO9.out.res.cell 3
  have fz3 := HO9.out.res.frozen 3
  have hl9 := HO9.out.res.lt
  clear hb9 HJ3
  simp only []
  go_wp2_with fail
  refine bodyPost_ret (sum_ret rfl _ _ (w.heap.size + 1 + 1) _ _ _ _ rfl ((((HO9.out.res.set_ 0 (.int .i64 q.kd)).set_ 1 (.int .i64 q.nd)).set_ 2 (.int .i64 q.sb)).set_ 3 (.int .i64 q.dp))) rfl ?_
  exact ⟨by rw [HREP.out, ← HEQ.out], Below.kept HO9.out.below (kept4 w9 (w.heap.size + 1 + 1) _ _ _ _) (by intro b hb; simp at hb; omega) HO9.out.below.size⟩
set_option maxRecDepth 100000 in
set_option maxHeartbeats 2000000 in
theorem repeat7_some (k : Int) (r : List (Int × Int)) (ra : Option Addr) (rc : Nat) (ast : Int) (l : List Ta) (sa : Option Addr) (sc : Nat) (mn mx : Int) (z : Bool) (ix : Int) (nm : ByteArray) (y : Sm) (t0 : Tr.Tr) (d : Int) (w : World) (hx : BS y d) (hc : CS y t0) (ht : Tr.Good t0) (hd : 1 ≤ d ∧ d ≤ 500000000) (h0 : 0 ≤ mn ∧ mn ≤ 1000) (hm : 0 ≤ mx ∧ mx ≤ 1000 ∧ mn ≤ mx) :
    Calls Try.prog 45 #[(Ta.mk k r ra rc ast l sa sc mn mx z ix nm).val, sv7 y] w fun e w' => e = .returned (sv7 (repR y mn mx)) ∧ Below w.heap.size w w' := by
  have hmb : (mx == -1) = false := by simp; omega
  have hrs := rs7_start w [.int .i64 k, .slice ra r.length rc, .int .i64 ast, .slice sa l.length sc, .int .i64 mn, .int .i64 mx, .bool z, .int .i64 ix, .string nm] [.int .i64 y.kd, .int .i64 y.nd, .int .i64 y.sb, .int .i64 y.dp]
  have HRS := Lib.hid hrs
  have HOV := Lib.hid (over7_any 6 y d ((((w.alloc (.cells #[.int .i64 k, .slice ra r.length rc, .int .i64 ast, .slice sa l.length sc, .int .i64 mn, .int .i64 mx, .bool z, .int .i64 ix, .string nm] 25)).alloc (.cells #[.int .i64 y.kd, .int .i64 y.nd, .int .i64 y.sb, .int .i64 y.dp] 69)).alloc (.cells #[.int .i64 0, .int .i64 0, .int .i64 0, .int .i64 0] 69)).alloc (.cells #[.int .i64 0, .int .i64 0, .int .i64 0, .int .i64 0, .int .i64 0, .int .i64 0, .int .i64 0] 97)) hx (by omega))
  have hlt := hrs.row.lt
  simp only [sv7, smV7, Ta.val, Ta.vals] at HOV ⊢
  have y0 : ((((w.alloc (.cells #[.int .i64 k, .slice ra r.length rc, .int .i64 ast, .slice sa l.length sc, .int .i64 mn, .int .i64 mx, .bool z, .int .i64 ix, .string nm] 25)).alloc (.cells #[.int .i64 y.kd, .int .i64 y.nd, .int .i64 y.sb, .int .i64 y.dp] 69)).alloc (.cells #[.int .i64 0, .int .i64 0, .int .i64 0, .int .i64 0] 69)).alloc (.cells #[.int .i64 0, .int .i64 0, .int .i64 0, .int .i64 0, .int .i64 0, .int .i64 0, .int .i64 0] 97)).cell? ⟨w.heap.size + 1, 0, none⟩ = some (.int .i64 y.kd) := HRS.out.yb.cell 0
  have y1 : ((((w.alloc (.cells #[.int .i64 k, .slice ra r.length rc, .int .i64 ast, .slice sa l.length sc, .int .i64 mn, .int .i64 mx, .bool z, .int .i64 ix, .string nm] 25)).alloc (.cells #[.int .i64 y.kd, .int .i64 y.nd, .int .i64 y.sb, .int .i64 y.dp] 69)).alloc (.cells #[.int .i64 0, .int .i64 0, .int .i64 0, .int .i64 0] 69)).alloc (.cells #[.int .i64 0, .int .i64 0, .int .i64 0, .int .i64 0, .int .i64 0, .int .i64 0, .int .i64 0] 97)).cell? ⟨w.heap.size + 1, 1, none⟩ = some (.int .i64 y.nd) := HRS.out.yb.cell 1
  have y2 : ((((w.alloc (.cells #[.int .i64 k, .slice ra r.length rc, .int .i64 ast, .slice sa l.length sc, .int .i64 mn, .int .i64 mx, .bool z, .int .i64 ix, .string nm] 25)).alloc (.cells #[.int .i64 y.kd, .int .i64 y.nd, .int .i64 y.sb, .int .i64 y.dp] 69)).alloc (.cells #[.int .i64 0, .int .i64 0, .int .i64 0, .int .i64 0] 69)).alloc (.cells #[.int .i64 0, .int .i64 0, .int .i64 0, .int .i64 0, .int .i64 0, .int .i64 0, .int .i64 0] 97)).cell? ⟨w.heap.size + 1, 2, none⟩ = some (.int .i64 y.sb) := HRS.out.yb.cell 2
  have y3 : ((((w.alloc (.cells #[.int .i64 k, .slice ra r.length rc, .int .i64 ast, .slice sa l.length sc, .int .i64 mn, .int .i64 mx, .bool z, .int .i64 ix, .string nm] 25)).alloc (.cells #[.int .i64 y.kd, .int .i64 y.nd, .int .i64 y.sb, .int .i64 y.dp] 69)).alloc (.cells #[.int .i64 0, .int .i64 0, .int .i64 0, .int .i64 0] 69)).alloc (.cells #[.int .i64 0, .int .i64 0, .int .i64 0, .int .i64 0, .int .i64 0, .int .i64 0, .int .i64 0] 97)).cell? ⟨w.heap.size + 1, 3, none⟩ = some (.int .i64 y.dp) := HRS.out.yb.cell 3
  have k4 : ((((w.alloc (.cells #[.int .i64 k, .slice ra r.length rc, .int .i64 ast, .slice sa l.length sc, .int .i64 mn, .int .i64 mx, .bool z, .int .i64 ix, .string nm] 25)).alloc (.cells #[.int .i64 y.kd, .int .i64 y.nd, .int .i64 y.sb, .int .i64 y.dp] 69)).alloc (.cells #[.int .i64 0, .int .i64 0, .int .i64 0, .int .i64 0] 69)).alloc (.cells #[.int .i64 0, .int .i64 0, .int .i64 0, .int .i64 0, .int .i64 0, .int .i64 0, .int .i64 0] 97)).cell? ⟨w.heap.size, 4, none⟩ = some (.int .i64 mn) := HRS.out.node.cell 4
  have k5 : ((((w.alloc (.cells #[.int .i64 k, .slice ra r.length rc, .int .i64 ast, .slice sa l.length sc, .int .i64 mn, .int .i64 mx, .bool z, .int .i64 ix, .string nm] 25)).alloc (.cells #[.int .i64 y.kd, .int .i64 y.nd, .int .i64 y.sb, .int .i64 y.dp] 69)).alloc (.cells #[.int .i64 0, .int .i64 0, .int .i64 0, .int .i64 0] 69)).alloc (.cells #[.int .i64 0, .int .i64 0, .int .i64 0, .int .i64 0, .int .i64 0, .int .i64 0, .int .i64 0] 97)).cell? ⟨w.heap.size, 5, none⟩ = some (.int .i64 mx) := HRS.out.node.cell 5
  clear hrs
  go_enter Try.func45, Try.ntmps45
  go_wp2_with fail
  generalize ((((w.alloc (.cells #[.int .i64 k, .slice ra r.length rc, .int .i64 ast, .slice sa l.length sc, .int .i64 mn, .int .i64 mx, .bool z, .int .i64 ix, .string nm] 25)).alloc (.cells #[.int .i64 y.kd, .int .i64 y.nd, .int .i64 y.sb, .int .i64 y.dp] 69)).alloc (.cells #[.int .i64 0, .int .i64 0, .int .i64 0, .int .i64 0] 69)).alloc (.cells #[.int .i64 0, .int .i64 0, .int .i64 0, .int .i64 0, .int .i64 0, .int .i64 0, .int .i64 0] 97)) = w4 at *
  generalize hrb : w.heap.size + 1 + 1 + 1 = rb at *
  refine HOV.out.mono ?_
  rintro e w5 ⟨rfl, hb5⟩
  have HO5 := Lib.hid (HRS.out.bel hb5)
  obtain ⟨one, hone⟩ : ∃ q, q = overS 6 y := ⟨_, rfl⟩
  have HON := Lib.hid hone
  rw [← hone]
  have HO6 := Lib.hid (HO5.out.bel (wq := w5.alloc (.cells #[.int .i64 one.kd, .int .i64 one.nd, .int .i64 one.sb, .int .i64 one.dp] 69)) ((Below.refl _ _).alloc (Nat.le_refl _) _))
  have HQ6 := Lib.hid (Blk.new w5 69 [.int .i64 one.kd, .int .i64 one.nd, .int .i64 one.sb, .int .i64 one.dp])
  clear hb5 k4 k5 hone
  clear y0 y1 y2 y3
  have HBR1 := Lib.hid (BR.nil (d := d + 2000) (by omega))
  have HY := Lib.hid (hx.more (e := d + 2000) (by omega))
  have HBR2 := Lib.hid (HBR1.out.join HY.out hc ht.1 (n := mn) (by omega))
  have hop := (opt_bs hx hc ht hd.1 (mx - mn).toNat).more (e := d + 2000) (by omega)
  have HOP := Lib.hid hop
  have HBR3 := Lib.hid (HBR2.out.join hop (opt_cs hc ht false _) (opt_good ht false _).1 (n := 1) (by decide))
  have HREP : Hid (repR y mn mx = joinedR (joinR (joinR rw0 y mn) (optR y (mx - mn).toNat) 1)) := Lib.hid (by rw [repR, if_neg (by omega)])
  have HBY := Lib.hid hx
  have HCY := Lib.hid hc
  have HGY := Lib.hid ht
  clear hx hc ht hop
  have hj1 := join7_any rw0 y mn (d + 2000) (w5.alloc (.cells #[.int .i64 one.kd, .int .i64 one.nd, .int .i64 one.sb, .int .i64 one.dp] 69)) rb HO6.out.row HBR1.out HY.out (by omega) (by omega)
  simp only [sv7, smV7] at hj1
  have HJ1 := Lib.hid hj1
  have k4 : (w5.alloc (.cells #[.int .i64 one.kd, .int .i64 one.nd, .int .i64 one.sb, .int .i64 one.dp] 69)).cell? ⟨w.heap.size, 4, none⟩ = some (.int .i64 mn) := HO6.out.node.cell 4
  have k5 : (w5.alloc (.cells #[.int .i64 one.kd, .int .i64 one.nd, .int .i64 one.sb, .int .i64 one.dp] 69)).cell? ⟨w.heap.size, 5, none⟩ = some (.int .i64 mx) := HO6.out.node.cell 5
  have y0 : (w5.alloc (.cells #[.int .i64 one.kd, .int .i64 one.nd, .int .i64 one.sb, .int .i64 one.dp] 69)).cell? ⟨w.heap.size + 1, 0, none⟩ = some (.int .i64 y.kd) := HO6.out.yb.cell 0
  have y1 : (w5.alloc (.cells #[.int .i64 one.kd, .int .i64 one.nd, .int .i64 one.sb, .int .i64 one.dp] 69)).cell? ⟨w.heap.size + 1, 1, none⟩ = some (.int .i64 y.nd) := HO6.out.yb.cell 1
  have y2 : (w5.alloc (.cells #[.int .i64 one.kd, .int .i64 one.nd, .int .i64 one.sb, .int .i64 one.dp] 69)).cell? ⟨w.heap.size + 1, 2, none⟩ = some (.int .i64 y.sb) := HO6.out.yb.cell 2
  have y3 : (w5.alloc (.cells #[.int .i64 one.kd, .int .i64 one.nd, .int .i64 one.sb, .int .i64 one.dp] 69)).cell? ⟨w.heap.size + 1, 3, none⟩ = some (.int .i64 y.dp) := HO6.out.yb.cell 3
  have hlt5 := HO5.out.row.lt
  have hfar := HO5.out.far
  clear hj1
  simp only []
  go_wp2_with fail
  generalize (w5.alloc (.cells #[.int .i64 one.kd, .int .i64 one.nd, .int .i64 one.sb, .int .i64 one.dp] 69)) = w6 at *
  refine HJ1.out.mono ?_
  rintro e w7 ⟨rfl, hb7, hk7⟩
  have HO7 := Lib.hid (HO6.out.put hk7 hb7)
  have hem := empty7_any w7
  simp only [sv7, smV7, emptyS] at hem
  have HEM := Lib.hid hem
  clear hb7 hk7 hem k4 k5 HJ1
  clear y0 y1 y2 y3
  simp only []
  go_wp2_with fail
  refine HEM.out.mono ?_
  rintro e w8 ⟨rfl, hb8⟩
  have HO8 := Lib.hid ((HO7.out.bel hb8).bel (wq := (w8.alloc (.cells #[.int .i64 1, .int .i64 1, .int .i64 0, .int .i64 1] 69))) ((Below.refl _ _).alloc (Nat.le_refl _) _))
  have HV8 := Lib.hid (show Blk (w8.alloc (.cells #[.int .i64 1, .int .i64 1, .int .i64 0, .int .i64 1] 69)) w8.heap.size 69 (smV7 (optR y 0)) from Blk.new w8 69 [.int .i64 1, .int .i64 1, .int .i64 0, .int .i64 1])
  have hvb : rb < w8.heap.size := (HO7.out.bel hb8).row.lt
  clear hb8 HEM
  simp only []
  go_wp2_with fail
  generalize (w8.alloc (.cells #[.int .i64 1, .int .i64 1, .int .i64 0, .int .i64 1] 69)) = wv at *
  generalize w8.heap.size = vb at *
  go_loopw [8] (fun kv wr => ∃ j : Nat, (j : Int) ≤ mx - mn ∧ kv = .int .i64 ((j : Int) + 1) ∧ RS7 w [.int .i64 k, .slice ra r.length rc, .int .i64 ast, .slice sa l.length sc, .int .i64 mn, .int .i64 mx, .bool z, .int .i64 ix, .string nm] [.int .i64 y.kd, .int .i64 y.nd, .int .i64 y.sb, .int .i64 y.dp] rb (joinR rw0 y mn) wr ∧ Blk wr vb 69 (smV7 (optR y j))) (fun kv _ => (mx - mn).toNat + 1 - (intOf kv).toNat)
  case atStart => exact ⟨0, by omega, rfl, HO8.out, HV8.out⟩
  case round =>
    obtain ⟨j, hj, rfl, hrs, hv⟩ := hrel
    have HO := Lib.hid hrs
    have HV := Lib.hid hv
    have hvl := hv.lt
    have hfar := hrs.far
    have k4 : wr.cell? ⟨w.heap.size, 4, none⟩ = some (.int .i64 mn) := hrs.node.cell 4
    have k5 : wr.cell? ⟨w.heap.size, 5, none⟩ = some (.int .i64 mx) := hrs.node.cell 5
    clear hrs hv
    by_cases hlt : (j : Int) < mx - mn
    · have hlt2 : (j : Int) + 1 ≤ mx - mn := by omega
      have hbi : Below wr.heap.size wr (wr.alloc (.cells #[.int .i64 0, .int .i64 0, .int .i64 0, .int .i64 0, .int .i64 0, .int .i64 0, .int .i64 0] 97)) := (Below.refl _ _).alloc (Nat.le_refl _) _
      have HOi := Lib.hid (HO.out.bel hbi)
      have HVi := Lib.hid (HV.out.below hbi HV.out.lt)
      have HRi := Lib.hid (show Blk (wr.alloc (.cells #[.int .i64 0, .int .i64 0, .int .i64 0, .int .i64 0, .int .i64 0, .int .i64 0, .int .i64 0] 97)) wr.heap.size 97 (rwV7 rw0) from Blk.new wr 97 [.int .i64 0, .int .i64 0, .int .i64 0, .int .i64 0, .int .i64 0, .int .i64 0, .int .i64 0])
      have HBo := Lib.hid (opt_bs HBY.out HCY.out HGY.out hd.1 j)
      have HB1 := Lib.hid (BR.nil (d := d + 2 * (j : Int)) (by omega))
      have HYb := Lib.hid (HBY.out.more (e := d + 2 * (j : Int)) (by omega))
      have HB2 := Lib.hid (HB1.out.join HYb.out HCY.out HGY.out.1 (n := 1) (by decide))
      have HB3 := Lib.hid (HB2.out.join HBo.out (opt_cs HCY.out HGY.out false j) (opt_good HGY.out false j).1 (n := 1) (by decide))
      have HNX := Lib.hid (opt_bs HBY.out HCY.out HGY.out hd.1 (j + 1))
      have HJ1 := Lib.hid (join7_any rw0 y 1 (d + 2 * (j : Int)) (wr.alloc (.cells #[.int .i64 0, .int .i64 0, .int .i64 0, .int .i64 0, .int .i64 0, .int .i64 0, .int .i64 0] 97)) wr.heap.size HRi.out HB1.out HYb.out (by omega) (by omega))
      obtain ⟨ov, hov⟩ : ∃ q, q = optR y j := ⟨_, rfl⟩
      have HOVQ := Lib.hid hov
      rw [← hov] at HVi HBo HB3
      obtain ⟨q1, hq1⟩ : ∃ q, q = joinedR (joinR (joinR rw0 y 1) ov 1) := ⟨_, rfl⟩
      have HQ1 := Lib.hid hq1
      have y0 : (wr.alloc (.cells #[.int .i64 0, .int .i64 0, .int .i64 0, .int .i64 0, .int .i64 0, .int .i64 0, .int .i64 0] 97)).cell? ⟨w.heap.size + 1, 0, none⟩ = some (.int .i64 y.kd) := HOi.out.yb.cell 0
      have y1 : (wr.alloc (.cells #[.int .i64 0, .int .i64 0, .int .i64 0, .int .i64 0, .int .i64 0, .int .i64 0, .int .i64 0] 97)).cell? ⟨w.heap.size + 1, 1, none⟩ = some (.int .i64 y.nd) := HOi.out.yb.cell 1
      have y2 : (wr.alloc (.cells #[.int .i64 0, .int .i64 0, .int .i64 0, .int .i64 0, .int .i64 0, .int .i64 0, .int .i64 0] 97)).cell? ⟨w.heap.size + 1, 2, none⟩ = some (.int .i64 y.sb) := HOi.out.yb.cell 2
      have y3 : (wr.alloc (.cells #[.int .i64 0, .int .i64 0, .int .i64 0, .int .i64 0, .int .i64 0, .int .i64 0, .int .i64 0] 97)).cell? ⟨w.heap.size + 1, 3, none⟩ = some (.int .i64 y.dp) := HOi.out.yb.cell 3
      clear hov hq1
      simp only [sv7, smV7] at HJ1
      go_wp2_with fail
      generalize hibe : wr.heap.size = ib at *
      generalize (wr.alloc (.cells #[.int .i64 0, .int .i64 0, .int .i64 0, .int .i64 0, .int .i64 0, .int .i64 0, .int .i64 0] 97)) = wi at *
      refine HJ1.out.mono ?_
      rintro e w2 ⟨rfl, hb2, hk2⟩
      have hil : ib < wi.heap.size := HRi.out.lt
      have HO2 := Lib.hid (HOi.out.free hk2 (by have := HOi.out.far; omega))
      have HV2 := Lib.hid (HVi.out.kept hk2 (by simp; omega))
      have hj2 := join7_any _ ov 1 (d + 2 * (j : Int)) w2 ib hb2 HB2.out HBo.out (by omega) (by omega)
      simp only [sv7, smV7] at hj2
      have HJ2 := Lib.hid hj2
      have o0 : w2.cell? ⟨vb, 0, none⟩ = some (.int .i64 ov.kd) := HV2.out.cell 0
      have o1 : w2.cell? ⟨vb, 1, none⟩ = some (.int .i64 ov.nd) := HV2.out.cell 1
      have o2 : w2.cell? ⟨vb, 2, none⟩ = some (.int .i64 ov.sb) := HV2.out.cell 2
      have o3 : w2.cell? ⟨vb, 3, none⟩ = some (.int .i64 ov.dp) := HV2.out.cell 3
      clear hb2 hk2 hj2 y0 y1 y2 y3 HJ1
      simp only []
      go_wp2_with fail
      refine HJ2.out.mono ?_
      rintro e w3 ⟨rfl, hb3, hk3⟩
      have HO3 := Lib.hid (HO2.out.free hk3 (by have := HOi.out.far; omega))
      have HV3 := Lib.hid (HV2.out.kept hk3 (by simp; omega))
      have hj4 := joined7_any _ (d + 2 * (j : Int)) w3 ib hb3 HB3.out (by omega)
      rw [← HQ1.out] at hj4
      simp only [sv7, smV7] at hj4
      have HJ4 := Lib.hid hj4
      clear hb3 hk3 hj4 o0 o1 o2 o3 HJ2
      simp only []
      go_wp2_with fail
      refine HJ4.out.mono ?_
      rintro e w4 ⟨rfl, hb4⟩
      have HO4 := Lib.hid (HO3.out.bel hb4)
      have HV4 := Lib.hid (HV3.out.below hb4 HV3.out.lt)
      clear hb4 HJ4
      simp only []
      by_cases hj0 : j = 0
      · have hon : overS 6 y = optR y (j + 1) := by rw [optR, if_pos hj0]
        have hjb : ((j : Int) + 1 == 1) = true := by simp; omega
        clear hj0
        have HOx := Lib.hid (HO4.out.bel (wq := (w4.alloc (.cells #[.int .i64 y.kd, .int .i64 y.nd, .int .i64 y.sb, .int .i64 y.dp] 69))) ((Below.refl _ _).alloc (Nat.le_refl _) _))
        have HVx := Lib.hid (HV4.out.alloc (.cells #[.int .i64 y.kd, .int .i64 y.nd, .int .i64 y.sb, .int .i64 y.dp] 69))
        have hv := over7_any 6 y d (w4.alloc (.cells #[.int .i64 y.kd, .int .i64 y.nd, .int .i64 y.sb, .int .i64 y.dp] 69)) HBY.out (by omega)
        rw [hon] at hv
        simp only [sv7, smV7] at hv
        have HVV := Lib.hid hv
        have y0 : (w4.alloc (.cells #[.int .i64 q1.kd, .int .i64 q1.nd, .int .i64 q1.sb, .int .i64 q1.dp] 69)).cell? ⟨w.heap.size + 1, 0, none⟩ = some (.int .i64 y.kd) := (HO4.out.bel (wq := (w4.alloc (.cells #[.int .i64 q1.kd, .int .i64 q1.nd, .int .i64 q1.sb, .int .i64 q1.dp] 69))) ((Below.refl _ _).alloc (Nat.le_refl _) _)).yb.cell 0
        have y1 : (w4.alloc (.cells #[.int .i64 q1.kd, .int .i64 q1.nd, .int .i64 q1.sb, .int .i64 q1.dp] 69)).cell? ⟨w.heap.size + 1, 1, none⟩ = some (.int .i64 y.nd) := (HO4.out.bel (wq := (w4.alloc (.cells #[.int .i64 q1.kd, .int .i64 q1.nd, .int .i64 q1.sb, .int .i64 q1.dp] 69))) ((Below.refl _ _).alloc (Nat.le_refl _) _)).yb.cell 1
        have y2 : (w4.alloc (.cells #[.int .i64 q1.kd, .int .i64 q1.nd, .int .i64 q1.sb, .int .i64 q1.dp] 69)).cell? ⟨w.heap.size + 1, 2, none⟩ = some (.int .i64 y.sb) := (HO4.out.bel (wq := (w4.alloc (.cells #[.int .i64 q1.kd, .int .i64 q1.nd, .int .i64 q1.sb, .int .i64 q1.dp] 69))) ((Below.refl _ _).alloc (Nat.le_refl _) _)).yb.cell 2
        have y3 : (w4.alloc (.cells #[.int .i64 q1.kd, .int .i64 q1.nd, .int .i64 q1.sb, .int .i64 q1.dp] 69)).cell? ⟨w.heap.size + 1, 3, none⟩ = some (.int .i64 y.dp) := (HO4.out.bel (wq := (w4.alloc (.cells #[.int .i64 q1.kd, .int .i64 q1.nd, .int .i64 q1.sb, .int .i64 q1.dp] 69))) ((Below.refl _ _).alloc (Nat.le_refl _) _)).yb.cell 3
        obtain ⟨on, hone⟩ : ∃ q, q = optR y (j + 1) := ⟨_, rfl⟩
        rw [← hone] at HVV
        have HON2 := Lib.hid hone
        clear hv hon hone
        go_wp2_with fail
        refine HVV.out.mono ?_
        rintro e w6 ⟨rfl, hb6⟩
        have HO6r := Lib.hid (HOx.out.bel hb6)
        have HV6r := Lib.hid (HVx.out.below hb6 HVx.out.lt)
        have v0 : w6.cell? ⟨vb, 0, none⟩ = some (.int .i64 ov.kd) := HV6r.out.cell 0
        have vz0 := HV6r.out.frozen 0
        have v1 : w6.cell? ⟨vb, 1, none⟩ = some (.int .i64 ov.nd) := HV6r.out.cell 1
        have vz1 := HV6r.out.frozen 1
        have v2 : w6.cell? ⟨vb, 2, none⟩ = some (.int .i64 ov.sb) := HV6r.out.cell 2
        have vz2 := HV6r.out.frozen 2
        have v3 : w6.cell? ⟨vb, 3, none⟩ = some (.int .i64 ov.dp) := HV6r.out.cell 3
        have vz3 := HV6r.out.frozen 3
        have vl := HV6r.out.lt
        clear hb6 y0 y1 y2 y3
        simp only []
        go_wp2_with fail
        go_roundw
        case rel => exact ⟨j + 1, by omega, by go_num, HO6r.out.free (kept4 w6 vb _ _ _ _) (by omega), by rw [← HON2.out]; exact ((((HV6r.out.set_ 0 (.int .i64 on.kd)).set_ 1 (.int .i64 on.nd)).set_ 2 (.int .i64 on.sb)).set_ 3 (.int .i64 on.dp))⟩
        case measure => simp [intOf]; omega
      · have hon : overS 6 q1 = optR y (j + 1) := by rw [optR, if_neg hj0, ← HOVQ.out, HQ1.out]
        have hjb : ((j : Int) + 1 == 1) = false := by simp; omega
        have HBQ : Hid (BS q1 (d + 2 * (j : Int) + 1)) := Lib.hid (by rw [HQ1.out]; exact HB3.out.form)
        clear hj0
        have HOx := Lib.hid (HO4.out.bel (wq := (w4.alloc (.cells #[.int .i64 q1.kd, .int .i64 q1.nd, .int .i64 q1.sb, .int .i64 q1.dp] 69))) ((Below.refl _ _).alloc (Nat.le_refl _) _))
        have HVx := Lib.hid (HV4.out.alloc (.cells #[.int .i64 q1.kd, .int .i64 q1.nd, .int .i64 q1.sb, .int .i64 q1.dp] 69))
        have hv := over7_any 6 q1 (d + 2 * (j : Int) + 1) (w4.alloc (.cells #[.int .i64 q1.kd, .int .i64 q1.nd, .int .i64 q1.sb, .int .i64 q1.dp] 69)) HBQ.out (by omega)
        rw [hon] at hv
        simp only [sv7, smV7] at hv
        have HVV := Lib.hid hv
        obtain ⟨on, hone⟩ : ∃ q, q = optR y (j + 1) := ⟨_, rfl⟩
        rw [← hone] at HVV
        have HON2 := Lib.hid hone
        clear hv hon hone
        go_wp2_with fail
        refine HVV.out.mono ?_
        rintro e w6 ⟨rfl, hb6⟩
        have HO6r := Lib.hid (HOx.out.bel hb6)
        have HV6r := Lib.hid (HVx.out.below hb6 HVx.out.lt)
        have v0 : w6.cell? ⟨vb, 0, none⟩ = some (.int .i64 ov.kd) := HV6r.out.cell 0
        have vz0 := HV6r.out.frozen 0
        have v1 : w6.cell? ⟨vb, 1, none⟩ = some (.int .i64 ov.nd) := HV6r.out.cell 1
        have vz1 := HV6r.out.frozen 1
        have v2 : w6.cell? ⟨vb, 2, none⟩ = some (.int .i64 ov.sb) := HV6r.out.cell 2
        have vz2 := HV6r.out.frozen 2
        have v3 : w6.cell? ⟨vb, 3, none⟩ = some (.int .i64 ov.dp) := HV6r.out.cell 3
        have vz3 := HV6r.out.frozen 3
        have vl := HV6r.out.lt
        clear hb6
        simp only []
        go_wp2_with fail
        go_roundw
        case rel => exact ⟨j + 1, by omega, by go_num, HO6r.out.free (kept4 w6 vb _ _ _ _) (by omega), by rw [← HON2.out]; exact ((((HV6r.out.set_ 0 (.int .i64 on.kd)).set_ 1 (.int .i64 on.nd)).set_ 2 (.int .i64 on.sb)).set_ 3 (.int .i64 on.dp))⟩
        case measure => simp [intOf]; omega
    · have hje : j = (mx - mn).toNat := by omega
      have hlt2 : ¬ ((j : Int) + 1 ≤ mx - mn) := by omega
      rw [hje] at HV
      obtain ⟨ov, hov⟩ : ∃ q, q = optR y (mx - mn).toNat := ⟨_, rfl⟩
      rw [← hov] at HV HOP HBR3 HREP
      have hj5 := join7_any _ ov 1 (d + 2000) wr rb HO.out.row HBR2.out HOP.out (by omega) (by omega)
      simp only [sv7, smV7] at hj5
      have HJ5 := Lib.hid hj5
      have o0 : wr.cell? ⟨vb, 0, none⟩ = some (.int .i64 ov.kd) := HV.out.cell 0
      have o1 : wr.cell? ⟨vb, 1, none⟩ = some (.int .i64 ov.nd) := HV.out.cell 1
      have o2 : wr.cell? ⟨vb, 2, none⟩ = some (.int .i64 ov.sb) := HV.out.cell 2
      have o3 : wr.cell? ⟨vb, 3, none⟩ = some (.int .i64 ov.dp) := HV.out.cell 3
      clear hje hov hj5
      go_wp2_with fail
      refine HJ5.out.mono ?_
      rintro e w8 ⟨rfl, hb8, hk8⟩
      have HO8 := Lib.hid (HO.out.put hk8 hb8)
      obtain ⟨q, hq⟩ : ∃ q, q = joinedR (joinR (joinR rw0 y mn) ov 1) := ⟨_, rfl⟩
      have hj3 := joined7_any _ (d + 2000) w8 rb HO8.out.row HBR3.out (by omega)
      rw [← hq] at hj3
      simp only [sv7, smV7] at hj3
      have HJ3 := Lib.hid hj3
      have HEQ := Lib.hid hq
      clear hb8 hk8 hj3 hq o0 o1 o2 o3 HJ5
      simp only []
      go_wp2_with fail
      refine HJ3.out.mono ?_
      rintro e w9 ⟨rfl, hb9⟩
      have HO9 := Lib.hid (HO8.out.bel hb9)
      have z0 : w9.cell? ⟨w.heap.size + 1 + 1, 0, none⟩ = some (.int .i64 0) := HO9.out.res.cell 0
      have fz0 := HO9.out.res.frozen 0
      have z1 : w9.cell? ⟨w.heap.size + 1 + 1, 1, none⟩ = some (.int .i64 0) := HO9.out.res.cell 1
      have fz1 := HO9.out.res.frozen 1
      have z2 : w9.cell? ⟨w.heap.size + 1 + 1, 2, none⟩ = some (.int .i64 0) := HO9.out.res.cell 2
      have fz2 := HO9.out.res.frozen 2
      have z3 : w9.cell? ⟨w.heap.size + 1 + 1, 3, none⟩ = some (.int .i64 0) := HO9.out.res.cell 3
      have fz3 := HO9.out.res.frozen 3
      have hl9 := HO9.out.res.lt
      clear hb9 HJ3
      simp only []
      go_wp2_with fail
      refine bodyPost_ret (sum_ret rfl _ _ (w.heap.size + 1 + 1) _ _ _ _ rfl ((((HO9.out.res.set_ 0 (.int .i64 q.kd)).set_ 1 (.int .i64 q.nd)).set_ 2 (.int .i64 q.sb)).set_ 3 (.int .i64 q.dp))) rfl ?_
      exact ⟨by rw [HREP.out, ← HEQ.out], Below.kept HO9.out.below (kept4 w9 (w.heap.size + 1 + 1) _ _ _ _) (by intro b hb; simp at hb; omega) HO9.out.below.size⟩
end Go.Proofs.Ytfgelkfnbohmmaa
