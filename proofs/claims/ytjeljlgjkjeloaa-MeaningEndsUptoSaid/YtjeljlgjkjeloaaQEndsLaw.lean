/- heronlaw06.MeaningEnds: true. -/
import Derived.Test.YtjeljlgjkjeloaaQCaps
import Derived.Test.YtjeljlgjkjeloaaQTurnLaw
import Derived.Test.YtjeljlgjkjeloaaQTblRow
namespace Go.Proofs.Ytjeljlgjkjeloaa
open Go.RowKit Go.Proofs.Ytjeljlgjkjeloaa.Tr Go.Proofs.Ytjeljlgjkjeloaa.Mach

/-- What Parses leaves, with its captures. -/
def LeftC (t : List Int) (a0 : Nat) (tr : Tr.Tr) (w : World) (A : Option Addr) (oc : Nat) (ps : Ps) : Prop :=
  Left t a0 tr w A oc ps ∧ ∀ p ∈ ps, Reads w w.heap.size 1 p.2.1 (2 + 2 * (greatest tr).toNat) p.2.2.1 (p.2.2.2.map (Value.int .i64)) ∧ Mean.capsOk a0 (2 + 2 * (greatest tr).toNat) (p.1, p.2.2.2)
theorem parses_leftc (k : Int) (r : List (Int × Int)) (ra : Option Addr) (rc : Nat) (ast : Int) (l : List Ta) (sa : Option Addr) (sc : Nat) (mn mx : Int) (z : Bool) (ix : Int) (nm : ByteArray) (S : Nat → Prop) (At : Option Addr) (n c a0 : Nat) (t : List Int) (w : World) (h : RT w S (Ta.mk k r ra rc ast l sa sc mn mx z ix nm)) (hS : ∀ b, S b → b < w.heap.size) (hn : n ≤ c) (htx : RdA w S 1 At n c (t.map (Value.int .i64))) (hso : soundB (Ta.mk k r ra rc ast l sa sc mn mx z ix nm).tr = true) (he : parE (Ta.mk k r ra rc ast l sa sc mn mx z ix nm).tr n (a0 : Int) = 0) :
    Calls Try.prog 11 #[(Ta.mk k r ra rc ast l sa sc mn mx z ix nm).val, .slice At n c, .int .i64 (a0 : Int)] w fun e w' => ∃ A oc ps, e = .returned (.tuple #[.slice A ps.length oc, .int .i64 0]) ∧ Below w.heap.size w w' ∧ LeftC t a0 (Ta.mk k r ra rc ast l sa sc mn mx z ix nm).tr w' A oc ps := by
  refine (parses_ok k r ra rc ast l sa sc mn mx z ix nm S At n c a0 t w h hS hn htx he).mono ?_
  rintro e w' ⟨A, oc, ps, u, s', rfl, hb, h1, h2, h3, h4, h5, h8, h6, h7⟩
  refine ⟨A, oc, ps, rfl, hb, ⟨u, s', h1, h2, h3, h4, h5, h6, fun p hp => h7 (p.1, p.2.2.2) (by rw [h4]; exact List.mem_map.2 ⟨p, hp, rfl⟩)⟩, fun p hp => ?_⟩
  obtain ⟨g1, g2⟩ := h8 p hp
  rw [g2] at g1
  exact ⟨g1, caps_within hso h1 h3 _ (by rw [h4]; exact List.mem_map.2 ⟨p, hp, rfl⟩)⟩
theorem row_ends {t : List Int} {a0 : Nat} {tr : Tr.Tr} {w : World} {A : Option Addr} {oc : Nat} {ps : Ps} {f : Fn2} (h : Left t a0 tr w A oc ps) (hso : soundB tr = true) (hf : Rep (t.length + 1) f (LT t tr)) (ha : a0 ≤ t.length) : rowB (t.length + 1) f a0 = endsL ps t.length := by
  obtain ⟨u, s', h1, h2, h3, h4, -, -, -⟩ := h
  unfold rowB endsL
  refine List.map_congr_left fun j hj => ?_
  rw [List.mem_range] at hj
  rw [Bool.eq_iff_iff, hf a0 j (by omega) hj, ← ends_lt h1 (sound_parts hso) h2 h3 h4 j, List.any_eq_true]
  simp only [List.mem_map, beq_iff_eq]
theorem count_ends {ps : Ps} {n : Nat} (hnd : (ps.map (·.1)).Nodup) (hle : ∀ p ∈ ps, p.1 ≤ n) : (endsL ps n).count true = ps.length := by
  have e : (endsL ps n).count true = ((List.range (n + 1)).filter fun j => ps.any fun p => p.1 == j).length := by
    unfold endsL
    rw [List.count, List.countP_map, List.countP_eq_length_filter]
    congr 1
    refine List.filter_congr fun j _ => ?_
    simp
  rw [e, ← List.length_map (f := fun p : Nat × Option Addr × Nat × List Int => p.1)]
  refine Nat.le_antisymm (nodup_le (List.Pairwise.filter _ List.nodup_range) fun x hx => ?_) (nodup_le hnd fun x hx => ?_)
  · rw [List.mem_filter, List.any_eq_true] at hx
    obtain ⟨-, p, hp, e⟩ := hx
    exact List.mem_map.2 ⟨p, hp, by simpa using e⟩
  · obtain ⟨p, hp, rfl⟩ := List.mem_map.1 hx
    rw [List.mem_filter, List.any_eq_true]
    exact ⟨List.mem_range.2 (by have := hle p hp; omega), p, hp, by simp⟩
/-- A call of a Go function with two arguments, as a step of a region that draws its order. -/
theorem step_call2 {P : Program} {ops : Array Oper} {o : Oper} {a : Act} {w : World} {K : Act → World → Prop} {Q : Exit → Act → World → Prop} {E : Prop} (hgd : o.guard = none) (f : FuncId) (x y : Operand) (t t' : TypeId)
    (ho : o.op = .call { callee := .value (.func f), args := #[x, y], argTypes := #[t, t'] }) (v v' : Value) (hx : a.eval x = v) (hy : a.eval y = v') (he : ∀ args u, (callFunc f args).run P u = .ok (.enter f args) u)
    (h : Calls P f #[v, v'] w fun e w' => ∃ r, e = .returned r ∧ K (a.put o.dst r) w') : if Region.wanted o (yielded ops a.tmps) = true then Oper.wp P o a w K Q else E := by
  have hw : Region.wanted o (yielded ops a.tmps) = true := by simp [Region.wanted, hgd]
  rw [if_pos hw]
  unfold Oper.wp
  have hrun : (execOp a.eval o).run P w = .ok (.enter f #[v, v']) w := by
    obtain ⟨dst, op, type, pos, after, guard⟩ := o
    simp only [] at ho
    subst ho
    show (callFunc f (#[] ++ (#[x, y] : Array Operand).map a.eval ++ #[])).run P w = _
    rw [he, ← hx, ← hy]
    simp
  rw [hrun, Oper.upon_enter]
  refine h.mono ?_
  rintro e w' ⟨r, rfl, hk⟩
  exact hk
set_option maxRecDepth 100000 in
set_option maxHeartbeats 8000000 in
theorem ends_law (k : Int) (r : List (Int × Int)) (ra : Option Addr) (rc : Nat) (ast : Int) (l : List Ta) (sa : Option Addr) (sc : Nat) (mn mx : Int) (z : Bool) (ix : Int) (nm : ByteArray) (S : Nat → Prop) (At : Option Addr) (n c : Nat) (at_ : Int) (t : List Int) (w : World) (h : RT w S (Ta.mk k r ra rc ast l sa sc mn mx z ix nm)) (hS : ∀ b, S b → b < w.heap.size) (htx : RdA w S 1 At n c (t.map (Value.int .i64))) :
    Calls Try.prog 4 #[(Ta.mk k r ra rc ast l sa sc mn mx z ix nm).val, .agg #[.slice At n c, .int .i64 at_]] w fun e w' => e = .returned (.bool true) ∧ Below w.heap.size w w' := by
  have hb0 : Below w.heap.size w ((w.alloc (.cells #[.int .i64 k, .slice ra r.length rc, .int .i64 ast, .slice sa l.length sc, .int .i64 mn, .int .i64 mx, .bool z, .int .i64 ix, .string nm] 28)).alloc (.cells #[.slice At n c, .int .i64 at_] 31)) := ((Below.refl _ _).alloc (Nat.le_refl _) _).alloc (by simp) _
  have HBL0 := Lib.hid ((Blk.new w 28 [.int .i64 k, .slice ra r.length rc, .int .i64 ast, .slice sa l.length sc, .int .i64 mn, .int .i64 mx, .bool z, .int .i64 ix, .string nm]).alloc (.cells #[.slice At n c, .int .i64 at_] 31))
  have HBX0 := Lib.hid (show Blk ((w.alloc (.cells #[.int .i64 k, .slice ra r.length rc, .int .i64 ast, .slice sa l.length sc, .int .i64 mn, .int .i64 mx, .bool z, .int .i64 ix, .string nm] 28)).alloc (.cells #[.slice At n c, .int .i64 at_] 31)) (w.heap.size + 1) 31 [.slice At n c, .int .i64 at_] from by
    have := Blk.new (w.alloc (.cells #[.int .i64 k, .slice ra r.length rc, .int .i64 ast, .slice sa l.length sc, .int .i64 mn, .int .i64 mx, .bool z, .int .i64 ix, .string nm] 28)) 31 [.slice At n c, .int .i64 at_]
    rwa [show (w.alloc (.cells #[.int .i64 k, .slice ra r.length rc, .int .i64 ast, .slice sa l.length sc, .int .i64 mn, .int .i64 mx, .bool z, .int .i64 ix, .string nm] 28)).heap.size = w.heap.size + 1 from by simp] at this)
  have xr0 : ((w.alloc (.cells #[.int .i64 k, .slice ra r.length rc, .int .i64 ast, .slice sa l.length sc, .int .i64 mn, .int .i64 mx, .bool z, .int .i64 ix, .string nm] 28)).alloc (.cells #[.slice At n c, .int .i64 at_] 31)).cell? ⟨w.heap.size, 0, none⟩ = some (.int .i64 k) := HBL0.out.cell 0
  have xr1 : ((w.alloc (.cells #[.int .i64 k, .slice ra r.length rc, .int .i64 ast, .slice sa l.length sc, .int .i64 mn, .int .i64 mx, .bool z, .int .i64 ix, .string nm] 28)).alloc (.cells #[.slice At n c, .int .i64 at_] 31)).cell? ⟨w.heap.size, 1, none⟩ = some (.slice ra r.length rc) := HBL0.out.cell 1
  have xr2 : ((w.alloc (.cells #[.int .i64 k, .slice ra r.length rc, .int .i64 ast, .slice sa l.length sc, .int .i64 mn, .int .i64 mx, .bool z, .int .i64 ix, .string nm] 28)).alloc (.cells #[.slice At n c, .int .i64 at_] 31)).cell? ⟨w.heap.size, 2, none⟩ = some (.int .i64 ast) := HBL0.out.cell 2
  have xr3 : ((w.alloc (.cells #[.int .i64 k, .slice ra r.length rc, .int .i64 ast, .slice sa l.length sc, .int .i64 mn, .int .i64 mx, .bool z, .int .i64 ix, .string nm] 28)).alloc (.cells #[.slice At n c, .int .i64 at_] 31)).cell? ⟨w.heap.size, 3, none⟩ = some (.slice sa l.length sc) := HBL0.out.cell 3
  have xr4 : ((w.alloc (.cells #[.int .i64 k, .slice ra r.length rc, .int .i64 ast, .slice sa l.length sc, .int .i64 mn, .int .i64 mx, .bool z, .int .i64 ix, .string nm] 28)).alloc (.cells #[.slice At n c, .int .i64 at_] 31)).cell? ⟨w.heap.size, 4, none⟩ = some (.int .i64 mn) := HBL0.out.cell 4
  have xr5 : ((w.alloc (.cells #[.int .i64 k, .slice ra r.length rc, .int .i64 ast, .slice sa l.length sc, .int .i64 mn, .int .i64 mx, .bool z, .int .i64 ix, .string nm] 28)).alloc (.cells #[.slice At n c, .int .i64 at_] 31)).cell? ⟨w.heap.size, 5, none⟩ = some (.int .i64 mx) := HBL0.out.cell 5
  have xr6 : ((w.alloc (.cells #[.int .i64 k, .slice ra r.length rc, .int .i64 ast, .slice sa l.length sc, .int .i64 mn, .int .i64 mx, .bool z, .int .i64 ix, .string nm] 28)).alloc (.cells #[.slice At n c, .int .i64 at_] 31)).cell? ⟨w.heap.size, 6, none⟩ = some (.bool z) := HBL0.out.cell 6
  have xr7 : ((w.alloc (.cells #[.int .i64 k, .slice ra r.length rc, .int .i64 ast, .slice sa l.length sc, .int .i64 mn, .int .i64 mx, .bool z, .int .i64 ix, .string nm] 28)).alloc (.cells #[.slice At n c, .int .i64 at_] 31)).cell? ⟨w.heap.size, 7, none⟩ = some (.int .i64 ix) := HBL0.out.cell 7
  have xr8 : ((w.alloc (.cells #[.int .i64 k, .slice ra r.length rc, .int .i64 ast, .slice sa l.length sc, .int .i64 mn, .int .i64 mx, .bool z, .int .i64 ix, .string nm] 28)).alloc (.cells #[.slice At n c, .int .i64 at_] 31)).cell? ⟨w.heap.size, 8, none⟩ = some (.string nm) := HBL0.out.cell 8
  have xra : ((w.alloc (.cells #[.int .i64 k, .slice ra r.length rc, .int .i64 ast, .slice sa l.length sc, .int .i64 mn, .int .i64 mx, .bool z, .int .i64 ix, .string nm] 28)).alloc (.cells #[.slice At n c, .int .i64 at_] 31)).cell? ⟨w.heap.size + 1, 0, none⟩ = some (.slice At n c) := HBX0.out.cell 0
  have xrb : ((w.alloc (.cells #[.int .i64 k, .slice ra r.length rc, .int .i64 ast, .slice sa l.length sc, .int .i64 mn, .int .i64 mx, .bool z, .int .i64 ix, .string nm] 28)).alloc (.cells #[.slice At n c, .int .i64 at_] 31)).cell? ⟨w.heap.size + 1, 1, none⟩ = some (.int .i64 at_) := HBX0.out.cell 1
  have HB0 := Lib.hid hb0
  have hn := htx.1
  have hc := htx.2.1
  have htl : t.length = n := by have := htx.2.2.1; rw [List.length_map] at this; omega
  have hde := fun (w' : World) (hb : Below w.heap.size w w') => deep_any (Ta.mk k r ra rc ast l sa sc mn mx z ix nm) (· < w'.heap.size) w' (rt_up h hS hb) (fun b hb => hb)
  have hmu := fun (w' : World) (hb : Below w.heap.size w w') => much_any k r ra rc ast l sa sc mn mx z ix nm (· < w'.heap.size) At n c w' (rt_up h hS hb) (fun b hb => hb) hn hc
  have hma := fun (w' : World) (hb : Below w.heap.size w w') => may6_any k r ra rc ast l sa sc mn mx z ix nm (· < w'.heap.size) At n c at_ w' (rt_up h hS hb) (fun b hb => hb) hn hc
  have hpa := fun (w' : World) (hb : Below w.heap.size w w') (a0 : Nat) => parses_leftc k r ra rc ast l sa sc mn mx z ix nm (· < w'.heap.size) At n c a0 t w' (rt_up h hS hb) (fun b hb => hb) hn (rd_up htx hS hb)
  have htb := fun (w' : World) (hb : Below w.heap.size w w') => table_any (Ta.mk k r ra rc ast l sa sc mn mx z ix nm) (· < w'.heap.size) w' At n c t (rt_up h hS hb)
  have hgr := fun (w' : World) (hb : Below w.heap.size w w') => rgrt_any (Ta.mk k r ra rc ast l sa sc mn mx z ix nm) (· < w'.heap.size) w' (rt_up h hS hb) (fun b hb => hb)
  have hpx := fun (w' : World) (hb : Below w.heap.size w w') => rd_up htx hS hb
  simp only [Ta.val, Ta.vals] at hde hmu hma hpa htb hgr
  obtain ⟨tt, htt⟩ : ∃ tt, tt = (Ta.mk k r ra rc ast l sa sc mn mx z ix nm).tr := ⟨_, rfl⟩
  rw [← htt] at hde hma hpa htb hgr
  have htb2 := fun (w' : World) (hb : Below w.heap.size w w') (ha : allB tt = true) => htb w' hb ha (fun b hb => hb) (rd_up htx hS hb)
  have HDE := Lib.hid hde
  have HMU := Lib.hid hmu
  have HMA := Lib.hid hma
  have HPA := Lib.hid hpa
  have HTB := Lib.hid htb2
  have HGR := Lib.hid hgr
  have HPX := Lib.hid hpx
  have HTL := Lib.hid htl
  simp only [Ta.val, Ta.vals]
  clear h hS hb0 htt hde hmu hma hpa htb hgr htb2 hpx htl htx
  go_enter Try.func4, Try.ntmps4
  go_wp2_with fail
  generalize ((w.alloc (.cells #[.int .i64 k, .slice ra r.length rc, .int .i64 ast, .slice sa l.length sc, .int .i64 mn, .int .i64 mx, .bool z, .int .i64 ix, .string nm] 28)).alloc (.cells #[.slice At n c, .int .i64 at_] 31)) = w0 at *
  refine (HDE.out w0 HB0.out).mono ?_
  rintro e w2 ⟨rfl, hb2⟩
  have HB2 := Lib.hid (HB0.out.trans (hb2.mono HB0.out.size))
  have HBL2 := Lib.hid (HBL0.out.below hb2 HBL0.out.lt)
  have HBX2 := Lib.hid (HBX0.out.below hb2 HBX0.out.lt)
  have xs0 : w2.cell? ⟨w.heap.size, 0, none⟩ = some (.int .i64 k) := HBL2.out.cell 0
  have xs1 : w2.cell? ⟨w.heap.size, 1, none⟩ = some (.slice ra r.length rc) := HBL2.out.cell 1
  have xs2 : w2.cell? ⟨w.heap.size, 2, none⟩ = some (.int .i64 ast) := HBL2.out.cell 2
  have xs3 : w2.cell? ⟨w.heap.size, 3, none⟩ = some (.slice sa l.length sc) := HBL2.out.cell 3
  have xs4 : w2.cell? ⟨w.heap.size, 4, none⟩ = some (.int .i64 mn) := HBL2.out.cell 4
  have xs5 : w2.cell? ⟨w.heap.size, 5, none⟩ = some (.int .i64 mx) := HBL2.out.cell 5
  have xs6 : w2.cell? ⟨w.heap.size, 6, none⟩ = some (.bool z) := HBL2.out.cell 6
  have xs7 : w2.cell? ⟨w.heap.size, 7, none⟩ = some (.int .i64 ix) := HBL2.out.cell 7
  have xs8 : w2.cell? ⟨w.heap.size, 8, none⟩ = some (.string nm) := HBL2.out.cell 8
  have xsa : w2.cell? ⟨w.heap.size + 1, 0, none⟩ = some (.slice At n c) := HBX2.out.cell 0
  have xsb : w2.cell? ⟨w.heap.size + 1, 1, none⟩ = some (.int .i64 at_) := HBX2.out.cell 1
  clear hb2 xr0 xr1 xr2 xr3 xr4 xr5 xr6 xr7 xr8 xra xrb
  generalize decide (4194304 < size tt) = deep at *
  cases deep with
  | true =>
    simp only []
    go_wp2_with fail
    go_ret
    exact ⟨rfl, HB2.out⟩
  | false =>
  simp only []
  go_wp2_with fail
  refine (HMU.out w2 HB2.out).mono ?_
  rintro e w3 ⟨⟨much, rfl⟩, hb3⟩
  have HB3 := Lib.hid (HB2.out.trans (hb3.mono HB2.out.size))
  have HBL3 := Lib.hid (HBL2.out.below hb3 HBL2.out.lt)
  have HBX3 := Lib.hid (HBX2.out.below hb3 HBX2.out.lt)
  have xr0 : w3.cell? ⟨w.heap.size, 0, none⟩ = some (.int .i64 k) := HBL3.out.cell 0
  have xr1 : w3.cell? ⟨w.heap.size, 1, none⟩ = some (.slice ra r.length rc) := HBL3.out.cell 1
  have xr2 : w3.cell? ⟨w.heap.size, 2, none⟩ = some (.int .i64 ast) := HBL3.out.cell 2
  have xr3 : w3.cell? ⟨w.heap.size, 3, none⟩ = some (.slice sa l.length sc) := HBL3.out.cell 3
  have xr4 : w3.cell? ⟨w.heap.size, 4, none⟩ = some (.int .i64 mn) := HBL3.out.cell 4
  have xr5 : w3.cell? ⟨w.heap.size, 5, none⟩ = some (.int .i64 mx) := HBL3.out.cell 5
  have xr6 : w3.cell? ⟨w.heap.size, 6, none⟩ = some (.bool z) := HBL3.out.cell 6
  have xr7 : w3.cell? ⟨w.heap.size, 7, none⟩ = some (.int .i64 ix) := HBL3.out.cell 7
  have xr8 : w3.cell? ⟨w.heap.size, 8, none⟩ = some (.string nm) := HBL3.out.cell 8
  have xra : w3.cell? ⟨w.heap.size + 1, 0, none⟩ = some (.slice At n c) := HBX3.out.cell 0
  have xrb : w3.cell? ⟨w.heap.size + 1, 1, none⟩ = some (.int .i64 at_) := HBX3.out.cell 1
  clear hb3 xs0 xs1 xs2 xs3 xs4 xs5 xs6 xs7 xs8 xsa xsb
  cases much with
  | true =>
    simp only []
    go_wp2_with fail
    go_ret
    exact ⟨rfl, HB3.out⟩
  | false =>
  simp only []
  go_wp2_with fail
  refine (awakeM_any w3).mono ?_
  rintro e w4 ⟨rfl, hb4⟩
  have HB4 := Lib.hid (HB3.out.trans (hb4.mono HB3.out.size))
  have HBL4 := Lib.hid (HBL3.out.below hb4 HBL3.out.lt)
  have HBX4 := Lib.hid (HBX3.out.below hb4 HBX3.out.lt)
  have xs0 : w4.cell? ⟨w.heap.size, 0, none⟩ = some (.int .i64 k) := HBL4.out.cell 0
  have xs1 : w4.cell? ⟨w.heap.size, 1, none⟩ = some (.slice ra r.length rc) := HBL4.out.cell 1
  have xs2 : w4.cell? ⟨w.heap.size, 2, none⟩ = some (.int .i64 ast) := HBL4.out.cell 2
  have xs3 : w4.cell? ⟨w.heap.size, 3, none⟩ = some (.slice sa l.length sc) := HBL4.out.cell 3
  have xs4 : w4.cell? ⟨w.heap.size, 4, none⟩ = some (.int .i64 mn) := HBL4.out.cell 4
  have xs5 : w4.cell? ⟨w.heap.size, 5, none⟩ = some (.int .i64 mx) := HBL4.out.cell 5
  have xs6 : w4.cell? ⟨w.heap.size, 6, none⟩ = some (.bool z) := HBL4.out.cell 6
  have xs7 : w4.cell? ⟨w.heap.size, 7, none⟩ = some (.int .i64 ix) := HBL4.out.cell 7
  have xs8 : w4.cell? ⟨w.heap.size, 8, none⟩ = some (.string nm) := HBL4.out.cell 8
  have xsa : w4.cell? ⟨w.heap.size + 1, 0, none⟩ = some (.slice At n c) := HBX4.out.cell 0
  have xsb : w4.cell? ⟨w.heap.size + 1, 1, none⟩ = some (.int .i64 at_) := HBX4.out.cell 1
  clear hb4 xr0 xr1 xr2 xr3 xr4 xr5 xr6 xr7 xr8 xra xrb
  simp only []
  go_wp2_with fail
  refine (HMA.out w4 HB4.out).mono ?_
  rintro e w5 ⟨rfl, hb5⟩
  have HB5 := Lib.hid (HB4.out.trans (hb5.mono HB4.out.size))
  have HBL5 := Lib.hid (HBL4.out.below hb5 HBL4.out.lt)
  have HBX5 := Lib.hid (HBX4.out.below hb5 HBX4.out.lt)
  have xr0 : w5.cell? ⟨w.heap.size, 0, none⟩ = some (.int .i64 k) := HBL5.out.cell 0
  have xr1 : w5.cell? ⟨w.heap.size, 1, none⟩ = some (.slice ra r.length rc) := HBL5.out.cell 1
  have xr2 : w5.cell? ⟨w.heap.size, 2, none⟩ = some (.int .i64 ast) := HBL5.out.cell 2
  have xr3 : w5.cell? ⟨w.heap.size, 3, none⟩ = some (.slice sa l.length sc) := HBL5.out.cell 3
  have xr4 : w5.cell? ⟨w.heap.size, 4, none⟩ = some (.int .i64 mn) := HBL5.out.cell 4
  have xr5 : w5.cell? ⟨w.heap.size, 5, none⟩ = some (.int .i64 mx) := HBL5.out.cell 5
  have xr6 : w5.cell? ⟨w.heap.size, 6, none⟩ = some (.bool z) := HBL5.out.cell 6
  have xr7 : w5.cell? ⟨w.heap.size, 7, none⟩ = some (.int .i64 ix) := HBL5.out.cell 7
  have xr8 : w5.cell? ⟨w.heap.size, 8, none⟩ = some (.string nm) := HBL5.out.cell 8
  have xra : w5.cell? ⟨w.heap.size + 1, 0, none⟩ = some (.slice At n c) := HBX5.out.cell 0
  have xrb : w5.cell? ⟨w.heap.size + 1, 1, none⟩ = some (.int .i64 at_) := HBX5.out.cell 1
  clear hb5 xs0 xs1 xs2 xs3 xs4 xs5 xs6 xs7 xs8 xsa xsb
  cases hmay : mayB tt n at_ with
  | false =>
    simp only []
    clear hmay
    go_wp2_with fail
    go_ret
    exact ⟨rfl, HB5.out⟩
  | true =>
  obtain ⟨hsz, hn64, h0a, han, hso, huz⟩ := may_parts hmay
  clear hmay
  obtain ⟨a0, rfl⟩ : ∃ a0 : Nat, at_ = (a0 : Int) := ⟨at_.toNat, by omega⟩
  have ha0 : a0 ≤ n := by omega
  have HSO := Lib.hid hso
  have HFA := Lib.hid (show size tt ≤ 200000 ∧ n ≤ 64 ∧ a0 ≤ n ∧ uz tt ≤ 2000 from ⟨hsz, hn64, ha0, huz⟩)
  have HPE := Lib.hid (par_zero hn64 hso huz ha0)
  clear hsz h0a han hso huz ha0 hn64
  simp only []
  go_wp2_with fail
  refine (HPA.out w5 HB5.out a0 HSO.out HPE.out).mono ?_
  rintro e w6 ⟨A1, o1, p1, rfl, hb6, hl1⟩
  have HB6 := Lib.hid (HB5.out.trans (hb6.mono HB5.out.size))
  have HBL6 := Lib.hid (HBL5.out.below hb6 HBL5.out.lt)
  have HBX6 := Lib.hid (HBX5.out.below hb6 HBX5.out.lt)
  have xs0 : w6.cell? ⟨w.heap.size, 0, none⟩ = some (.int .i64 k) := HBL6.out.cell 0
  have xs1 : w6.cell? ⟨w.heap.size, 1, none⟩ = some (.slice ra r.length rc) := HBL6.out.cell 1
  have xs2 : w6.cell? ⟨w.heap.size, 2, none⟩ = some (.int .i64 ast) := HBL6.out.cell 2
  have xs3 : w6.cell? ⟨w.heap.size, 3, none⟩ = some (.slice sa l.length sc) := HBL6.out.cell 3
  have xs4 : w6.cell? ⟨w.heap.size, 4, none⟩ = some (.int .i64 mn) := HBL6.out.cell 4
  have xs5 : w6.cell? ⟨w.heap.size, 5, none⟩ = some (.int .i64 mx) := HBL6.out.cell 5
  have xs6 : w6.cell? ⟨w.heap.size, 6, none⟩ = some (.bool z) := HBL6.out.cell 6
  have xs7 : w6.cell? ⟨w.heap.size, 7, none⟩ = some (.int .i64 ix) := HBL6.out.cell 7
  have xs8 : w6.cell? ⟨w.heap.size, 8, none⟩ = some (.string nm) := HBL6.out.cell 8
  have xsa : w6.cell? ⟨w.heap.size + 1, 0, none⟩ = some (.slice At n c) := HBX6.out.cell 0
  have xsb : w6.cell? ⟨w.heap.size + 1, 1, none⟩ = some (.int .i64 (a0 : Int)) := HBX6.out.cell 1
  have HL1 := Lib.hid hl1
  clear hb6 hl1 xr0 xr1 xr2 xr3 xr4 xr5 xr6 xr7 xr8 xra xrb
  have HBW := Lib.hid (HTB.out w6.drew (bdrewN HB6.out 1) (sound_parts HSO.out) HFA.out.2.1)
  simp only []
  go_wp2_with fail
  have kA : w6.drew.cell? ⟨w.heap.size, 0, none⟩ = some (.int .i64 k) ∧ w6.drew.cell? ⟨w.heap.size, 1, none⟩ = some (.slice ra r.length rc) ∧ w6.drew.cell? ⟨w.heap.size, 2, none⟩ = some (.int .i64 ast) ∧ w6.drew.cell? ⟨w.heap.size, 3, none⟩ = some (.slice sa l.length sc) ∧ w6.drew.cell? ⟨w.heap.size, 4, none⟩ = some (.int .i64 mn) ∧ w6.drew.cell? ⟨w.heap.size, 5, none⟩ = some (.int .i64 mx) ∧ w6.drew.cell? ⟨w.heap.size, 6, none⟩ = some (.bool z) ∧ w6.drew.cell? ⟨w.heap.size, 7, none⟩ = some (.int .i64 ix) ∧ w6.drew.cell? ⟨w.heap.size, 8, none⟩ = some (.string nm) ∧ w6.drew.cell? ⟨w.heap.size + 1, 0, none⟩ = some (.slice At n c) ∧ w6.drew.cell? ⟨w.heap.size + 1, 1, none⟩ = some (.int .i64 (a0 : Int)) := ⟨HBL6.out.drew.cell 0, HBL6.out.drew.cell 1, HBL6.out.drew.cell 2, HBL6.out.drew.cell 3, HBL6.out.drew.cell 4, HBL6.out.drew.cell 5, HBL6.out.drew.cell 6, HBL6.out.drew.cell 7, HBL6.out.drew.cell 8, HBX6.out.drew.cell 0, HBX6.out.drew.cell 1⟩
  refine wp_region_held_drew (S := (fun u => u.cell? ⟨w.heap.size, 0, none⟩ = some (.int .i64 k) ∧ u.cell? ⟨w.heap.size, 1, none⟩ = some (.slice ra r.length rc) ∧ u.cell? ⟨w.heap.size, 2, none⟩ = some (.int .i64 ast) ∧ u.cell? ⟨w.heap.size, 3, none⟩ = some (.slice sa l.length sc) ∧ u.cell? ⟨w.heap.size, 4, none⟩ = some (.int .i64 mn) ∧ u.cell? ⟨w.heap.size, 5, none⟩ = some (.int .i64 mx) ∧ u.cell? ⟨w.heap.size, 6, none⟩ = some (.bool z) ∧ u.cell? ⟨w.heap.size, 7, none⟩ = some (.int .i64 ix) ∧ u.cell? ⟨w.heap.size, 8, none⟩ = some (.string nm) ∧ u.cell? ⟨w.heap.size + 1, 0, none⟩ = some (.slice At n c) ∧ u.cell? ⟨w.heap.size + 1, 1, none⟩ = some (.int .i64 (a0 : Int)))) (by kernel_rfl) kA (fun hS0 => ?_)
  refine wpAnyH_take (i := 0) (oi := { dst := some 47, op := Op.load 28 (Operand.tmp 2), type := 28, pos := "keeps.go:413", after := #[], guard := none }) (v := ?_) rfl (by kernel_rfl) (by kernel_rfl) (by kernel_rfl) (fun _ _ _ h => h) (Or.inl ⟨by rfl, ?_⟩) (by assumption) ?_
  rotate_left
  · intro w hSw; (try dsimp only at hSw); go_simp; (try with_reducible rfl)
  (try simp only [Act.put, List.setIfInBounds_toArray, List.set_cons_zero, List.set_cons_succ])
  refine wpAnyH_take (i := 1) (oi := { dst := some 48, op := Op.fieldAddr 31 (Operand.tmp 3) 0, type := 0, pos := "keeps.go:413", after := #[], guard := none }) (v := ?_) rfl (by kernel_rfl) (by kernel_rfl) (by kernel_rfl) (fun _ _ _ h => h) (Or.inl ⟨by rfl, ?_⟩) (by assumption) ?_
  rotate_left
  · intro w hSw; (try dsimp only at hSw); go_simp; (try with_reducible rfl)
  (try simp only [Act.put, List.setIfInBounds_toArray, List.set_cons_zero, List.set_cons_succ])
  refine wpAnyH_take (i := 2) (oi := { dst := some 49, op := Op.load 29 (Operand.tmp 48), type := 29, pos := "keeps.go:413", after := #[{ on := 1, ground := Ground.data }], guard := none }) (v := ?_) rfl (by kernel_rfl) (by kernel_rfl) (by kernel_rfl) (fun _ _ _ h => h) (Or.inl ⟨by rfl, ?_⟩) (by assumption) ?_
  rotate_left
  · intro w hSw; (try dsimp only at hSw); go_simp; (try with_reducible rfl)
  (try simp only [Act.put, List.setIfInBounds_toArray, List.set_cons_zero, List.set_cons_succ])
  refine wpAnyH_take (i := 4) (oi := { dst := some 51, op := Op.fieldAddr 31 (Operand.tmp 3) 1, type := 0, pos := "keeps.go:413", after := #[], guard := none }) (v := ?_) rfl (by kernel_rfl) (by kernel_rfl) (by kernel_rfl) (fun _ _ _ h => h) (Or.inl ⟨by rfl, ?_⟩) (by assumption) ?_
  rotate_left
  · intro w hSw; (try dsimp only at hSw); go_simp; (try with_reducible rfl)
  (try simp only [Act.put, List.setIfInBounds_toArray, List.set_cons_zero, List.set_cons_succ])
  refine wpAnyH_take (i := 5) (oi := { dst := some 52, op := Op.load 3 (Operand.tmp 51), type := 3, pos := "keeps.go:413", after := #[{ on := 4, ground := Ground.data }], guard := none }) (v := ?_) rfl (by kernel_rfl) (by kernel_rfl) (by kernel_rfl) (fun _ _ _ h => h) (Or.inl ⟨by rfl, ?_⟩) (by assumption) ?_
  rotate_left
  · intro w hSw; (try dsimp only at hSw); go_simp; (try with_reducible rfl)
  (try simp only [Act.put, List.setIfInBounds_toArray, List.set_cons_zero, List.set_cons_succ])
  refine wpAnyH_ready (rs := [3]) (by kernel_rfl) (by simp) ?_
  refine AllReadyH.cons (o := { dst := some 50, op := Op.call { callee := Callee.value (Operand.func 12), args := #[Operand.tmp 47, Operand.tmp 49], argTypes := #[28, 29] }, type := 39, pos := "keeps.go:413", after := #[{ on := 0, ground := Ground.data }, { on := 2, ground := Ground.data }], guard := none }) rfl (fun K hK => ?_) AllReadyH.nil
  refine step_call2 rfl 12 (.tmp 47) (.tmp 49) 28 29 rfl _ _ rfl rfl (enters0 Try.func12 (by kernel_rfl) (by kernel_rfl)) ?_
  refine HBW.out.mono ?_
  rintro e w7 ⟨f, ⟨b, o, c1, gs, rfl, hb7, ht7⟩, hrep⟩
  have HB7 := Lib.hid hb7
  have HT7 := Lib.hid ht7
  have HREP := Lib.hid hrep
  obtain ⟨g, hg, hgc, hg1, hg2, hck, hfz⟩ := ht7.at_ (i := a0) (by have := HFA.out.2.2.1; omega)
  have HG := Lib.hid hg
  have kB : w7.cell? ⟨w.heap.size, 0, none⟩ = some (.int .i64 k) ∧ w7.cell? ⟨w.heap.size, 1, none⟩ = some (.slice ra r.length rc) ∧ w7.cell? ⟨w.heap.size, 2, none⟩ = some (.int .i64 ast) ∧ w7.cell? ⟨w.heap.size, 3, none⟩ = some (.slice sa l.length sc) ∧ w7.cell? ⟨w.heap.size, 4, none⟩ = some (.int .i64 mn) ∧ w7.cell? ⟨w.heap.size, 5, none⟩ = some (.int .i64 mx) ∧ w7.cell? ⟨w.heap.size, 6, none⟩ = some (.bool z) ∧ w7.cell? ⟨w.heap.size, 7, none⟩ = some (.int .i64 ix) ∧ w7.cell? ⟨w.heap.size, 8, none⟩ = some (.string nm) ∧ w7.cell? ⟨w.heap.size + 1, 0, none⟩ = some (.slice At n c) ∧ w7.cell? ⟨w.heap.size + 1, 1, none⟩ = some (.int .i64 (a0 : Int)) := ⟨(HBL6.out.drew.below hb7 HBL6.out.lt).cell 0, (HBL6.out.drew.below hb7 HBL6.out.lt).cell 1, (HBL6.out.drew.below hb7 HBL6.out.lt).cell 2, (HBL6.out.drew.below hb7 HBL6.out.lt).cell 3, (HBL6.out.drew.below hb7 HBL6.out.lt).cell 4, (HBL6.out.drew.below hb7 HBL6.out.lt).cell 5, (HBL6.out.drew.below hb7 HBL6.out.lt).cell 6, (HBL6.out.drew.below hb7 HBL6.out.lt).cell 7, (HBL6.out.drew.below hb7 HBL6.out.lt).cell 8, (HBX6.out.drew.below hb7 HBX6.out.lt).cell 0, (HBX6.out.drew.below hb7 HBX6.out.lt).cell 1⟩
  have ha1 : (a0 : Int) < (n : Int) + 1 := by have := HFA.out.2.2.1; omega
  clear hb7 ht7 hrep hg hck hfz
  refine ⟨_, rfl, ?_⟩
  refine hK.out _ _ ?_ (fun hHeld => ?_)
  · exact kB
  clear hK K hHeld
  (try simp only [Act.put, List.setIfInBounds_toArray, List.set_cons_zero, List.set_cons_succ])
  refine wpAnyH_ready (rs := [6]) (by kernel_rfl) (by simp) ?_
  refine AllReadyH.cons (o := { dst := some 53, op := Op.indexAddr 39 (Operand.tmp 50) (Operand.tmp 52), type := 0, pos := "keeps.go:413", after := #[{ on := 3, ground := Ground.data }, { on := 5, ground := Ground.data }], guard := none }) rfl (fun K hK => ?_) AllReadyH.nil
  go_simp
  refine hK.out _ _ ?_ (fun hHeld => ?_)
  · exact kB
  clear hK K hHeld
  (try simp only [Act.put, List.setIfInBounds_toArray, List.set_cons_zero, List.set_cons_succ])
  refine wpAnyH_ready (rs := [7]) (by kernel_rfl) (by simp) ?_
  refine AllReadyH.cons (o := { dst := some 54, op := Op.load 38 (Operand.tmp 53), type := 38, pos := "keeps.go:413", after := #[{ on := 6, ground := Ground.data }], guard := none }) rfl (fun K hK => ?_) AllReadyH.nil
  go_simp
  refine hK.out _ _ ?_ (fun hHeld => ?_)
  · exact kB
  clear hK K hHeld
  (try simp only [Act.put, List.setIfInBounds_toArray, List.set_cons_zero, List.set_cons_succ])
  refine wpAnyH_ready (rs := [8]) (by kernel_rfl) (by simp) ?_
  refine AllReadyH.cons (o := { dst := some 11, op := Op.assign (Operand.tmp 54), type := 38, pos := "keeps.go:413", after := #[{ on := 7, ground := Ground.data }, { on := 3, ground := Ground.chain }, { on := 0, ground := Ground.phase }, { on := 1, ground := Ground.phase }, { on := 2, ground := Ground.phase }, { on := 3, ground := Ground.phase }, { on := 4, ground := Ground.phase }, { on := 5, ground := Ground.phase }, { on := 6, ground := Ground.phase }, { on := 7, ground := Ground.phase }], guard := none }) rfl (fun K hK => ?_) AllReadyH.nil
  go_simp
  refine hK.out _ _ ?_ (fun hHeld => ?_)
  · exact kB
  clear hK K hHeld
  (try simp only [Act.put, List.setIfInBounds_toArray, List.set_cons_zero, List.set_cons_succ])
  refine wpAnyH_done (by kernel_rfl) ?_ _
  have HB67 := Lib.hid ((bdrewN (Below.refl w6.heap.size w6) 1).trans (HB7.out.mono (Nat.le_refl _)))
  have HBW7 := Lib.hid (HB6.out.trans (HB67.out.mono HB6.out.size))
  have HBX7 := Lib.hid (HBX6.out.below HB67.out HBX6.out.lt)
  have HBL7 := Lib.hid (HBL6.out.below HB67.out HBL6.out.lt)
  obtain ⟨hgt0, hgt5⟩ := grt_bd tt (sound_parts HSO.out)
  obtain ⟨g0, hg0⟩ : ∃ g0 : Nat, greatest tt = (g0 : Int) := ⟨(greatest tt).toNat, by omega⟩
  have hg5 : g0 ≤ 500 := by omega
  have hgn : 2 + 2 * (greatest tt).toNat = 2 * g0 + 2 := by omega
  have HG0 := Lib.hid hg0
  have HX := Lib.hid (show p1.length ≤ 65 ∧ (∀ p ∈ p1, p.1 ≤ n) from by
    refine ⟨left_few HL1.out.1 (by rw [HTL.out]; exact HFA.out.2.1), ?_⟩
    obtain ⟨-, -, -, -, -, -, -, -, h7⟩ := HL1.out.1
    rw [HTL.out] at h7; exact h7)
  have HR1 := Lib.hid (show Reads w7 w7.heap.size 2 A1 p1.length o1 (outW p1) from by
    obtain ⟨-, -, -, -, -, -, h5, -, -⟩ := HL1.out.1
    exact (h5.below HB67.out).more HB67.out.size)
  have HCNT := Lib.hid (show (endsL p1 n).count true = p1.length from by
    obtain ⟨u, s', -, -, -, h4, -, h6, -⟩ := HL1.out.1
    rw [fst_out h4] at h6
    exact count_ends h6 HX.out.2)
  have HRW := Lib.hid (show Blk w7 g 4 (bls (endsL p1 n)) from by
    have h1 := (HT7.out.row a0 g HG.out).2.2
    have h2 := row_ends HL1.out.1 HSO.out (f := f) (by rw [HTL.out]; exact HREP.out) (by rw [HTL.out]; exact HFA.out.2.2.1)
    rw [HTL.out] at h2
    rwa [h2] at h1)
  have HCAP := Lib.hid (show ∀ p ∈ p1, Reads w7 w7.heap.size 1 p.2.1 (2 * g0 + 2) p.2.2.1 (p.2.2.2.map (Value.int .i64)) ∧ Mean.capsOk a0 (2 * g0 + 2) (p.1, p.2.2.2) from fun p hp => by
    obtain ⟨h1, h2⟩ := HL1.out.2 p hp
    rw [hgn] at h1 h2
    exact ⟨(h1.below HB67.out).more HB67.out.size, h2⟩)
  obtain ⟨xr0, xr1, xr2, xr3, xr4, xr5, xr6, xr7, xr8, xra, xrb⟩ := kB
  clear hgt0 hgt5 hgn hg0 kA hgc hg1 hg2 ha1 xs0 xs1 xs2 xs3 xs4 xs5 xs6 xs7 xs8 xsa xsb HBW
  have hn64 : n ≤ 64 := HFA.out.2.1
  have ha0n : a0 ≤ n := HFA.out.2.2.1
  have HE1 := Lib.hid (ends2 A1 o1 n p1.length p1 w7 HR1.out HX.out.2 HFA.out.2.1 HX.out.1 rfl)
  have hq65 : p1.length ≤ 65 := HX.out.1
  generalize hq1 : p1.length = q at *
  have HQ1 := Lib.hid hq1
  clear hq1
  go_wp2_with fail
  refine HE1.out.mono ?_
  rintro e w8 ⟨rfl, hb8, hx8⟩
  have HB78 := Lib.hid hb8
  have HAL := Lib.hid (alike2 w7.heap.size g n p1 p1 w8 hx8 (HRW.out.below hb8 HRW.out.lt) rfl HFA.out.2.1)
  clear hb8 hx8 xr0 xr1 xr2 xr3 xr4 xr5 xr6 xr7 xr8 xra xrb
  simp only []
  go_wp2_with fail
  refine HAL.out.mono ?_
  rintro e w9 ⟨rfl, hb9⟩
  have HB79 := Lib.hid (HB78.out.trans (hb9.mono HB78.out.size))
  clear hb9
  simp only []
  go_wp2_with fail
  go_loopw [13, 14] (fun mv iv wr => ∃ i : Nat, i ≤ n + 1 ∧ iv = .int .i64 (i : Int) ∧ mv = .int .i64 ((((endsL p1 n).take i).count true : Nat) : Int) ∧ Below w9.heap.size w9 wr) (fun _ iv _ => n + 1 - (intOf iv).toNat)
  case atStart => exact ⟨0, Nat.zero_le _, rfl, by simp, Below.refl _ _⟩
  case round =>
    obtain ⟨i, hi, rfl, rfl, hb⟩ := hrel
    have HB := Lib.hid hb
    clear hb
    by_cases hlt : i < n + 1
    · have hlt2 : (i : Int) < (n : Int) + 1 := by omega
      obtain ⟨b, hbb⟩ : ∃ b, (endsL p1 n)[i]? = some b := ⟨_, List.getElem?_eq_getElem (by rw [endsL_length]; exact hlt)⟩
      have e1 : wr.cell? ⟨g, i, none⟩ = some (.bool b) := by
        rw [((HRW.out.below HB79.out HRW.out.lt).below HB.out (Nat.lt_of_lt_of_le HRW.out.lt HB79.out.size)).cell]
        exact bls_get hbb
      have hst : ((endsL p1 n).take (i + 1)).count true = ((endsL p1 n).take i).count true + (if b then 1 else 0) := by
        rw [List.take_add_one, hbb, List.count_append]
        cases b <;> simp
      have hle : ((endsL p1 n).take i).count true ≤ i := Nat.le_trans List.count_le_length (by rw [List.length_take]; omega)
      generalize ((endsL p1 n).take i).count true = m at *
      have HST := Lib.hid hst
      clear hst hbb
      cases b with
      | true =>
        go_wp2_with fail
        go_roundw
        case rel => exact ⟨i + 1, by omega, by go_num, by rw [HST.out]; go_num, HB.out⟩
        case measure => simp [intOf]; omega
      | false =>
        go_wp2_with fail
        go_roundw
        case rel => exact ⟨i + 1, by omega, by go_num, by rw [HST.out]; rfl, HB.out⟩
        case measure => simp [intOf]; omega
    · obtain rfl : i = n + 1 := by omega
      have hlt2 : ¬ ((n : Int) + 1 < (n : Int) + 1) := by omega
      have hcq : ((endsL p1 n).take (n + 1)).count true = q := by
        rw [List.take_of_length_le (by rw [endsL_length]; omega), HCNT.out]
      rw [hcq]
      clear hcq
      have HBo := Lib.hid (HBW7.out.trans ((HB79.out.trans (HB.out.mono HB79.out.size)).mono HBW7.out.size))
      have HB7o := Lib.hid (HB79.out.trans (HB.out.mono HB79.out.size))
      have HBXo := Lib.hid (HBX7.out.below HB7o.out HBX7.out.lt)
      have HBLo := Lib.hid (HBL7.out.below HB7o.out HBL7.out.lt)
      have xr0 : wr.cell? ⟨w.heap.size, 0, none⟩ = some (.int .i64 k) := HBLo.out.cell 0
      have xr1 : wr.cell? ⟨w.heap.size, 1, none⟩ = some (.slice ra r.length rc) := HBLo.out.cell 1
      have xr2 : wr.cell? ⟨w.heap.size, 2, none⟩ = some (.int .i64 ast) := HBLo.out.cell 2
      have xr3 : wr.cell? ⟨w.heap.size, 3, none⟩ = some (.slice sa l.length sc) := HBLo.out.cell 3
      have xr4 : wr.cell? ⟨w.heap.size, 4, none⟩ = some (.int .i64 mn) := HBLo.out.cell 4
      have xr5 : wr.cell? ⟨w.heap.size, 5, none⟩ = some (.int .i64 mx) := HBLo.out.cell 5
      have xr6 : wr.cell? ⟨w.heap.size, 6, none⟩ = some (.bool z) := HBLo.out.cell 6
      have xr7 : wr.cell? ⟨w.heap.size, 7, none⟩ = some (.int .i64 ix) := HBLo.out.cell 7
      have xr8 : wr.cell? ⟨w.heap.size, 8, none⟩ = some (.string nm) := HBLo.out.cell 8
      have xra : wr.cell? ⟨w.heap.size + 1, 0, none⟩ = some (.slice At n c) := HBXo.out.cell 0
      have xrb : wr.cell? ⟨w.heap.size + 1, 1, none⟩ = some (.int .i64 (a0 : Int)) := HBXo.out.cell 1
      have hgr := HGR.out wr HBo.out
      rw [HG0.out] at hgr
      have HGW := Lib.hid hgr
      clear hgr
      go_wp2_with fail
      refine HGW.out.mono ?_
      rintro e w10 ⟨rfl, hb10⟩
      have HB10 := Lib.hid (HB7o.out.trans (hb10.mono HB7o.out.size))
      have HBX10 := Lib.hid (HBX7.out.below HB10.out HBX7.out.lt)
      have HBo10 := Lib.hid (HBo.out.trans (hb10.mono HBo.out.size))
      have hwa : IntKind.i64.wrap (2 * (g0 : Int)) = 2 * (g0 : Int) := by rw [IntKind.wrap_i64]; omega
      have hwb : IntKind.i64.wrap (2 * (g0 : Int) + 2) = 2 * (g0 : Int) + 2 := by rw [IntKind.wrap_i64]; omega
      have hi0 : (0 : Int) < 2 * (g0 : Int) + 2 := by omega
      have hi1 : (1 : Int) < 2 * (g0 : Int) + 2 := by omega
      clear hb10 HGW HB7o HBo HBXo HBLo HB hlt hlt2 hi xr0 xr1 xr2 xr3 xr4 xr5 xr6 xr7 xr8 xra xrb
      simp only []
      go_wp2_with fail
      go_loopw [16] (fun iv wr => ∃ i : Nat, i ≤ q ∧ iv = .int .i64 (i : Int) ∧ Below w10.heap.size w10 wr) (fun iv _ => q - (intOf iv).toNat)
      case atStart => exact ⟨0, Nat.zero_le _, rfl, Below.refl _ _⟩
      case round =>
        obtain ⟨i, hi, rfl, hb⟩ := hrel
        have HB := Lib.hid hb
        have HB7r := Lib.hid (HB10.out.trans (hb.mono HB10.out.size))
        clear hb
        by_cases hlt : i < q
        · have hlt2 : (i : Int) < (q : Int) := by omega
          obtain ⟨b1, f1, rfl, hbl1, hc1⟩ := HR1.out.at_ (by omega)
          obtain ⟨p, hp⟩ : ∃ p, p1[i]? = some p := ⟨_, List.getElem?_eq_getElem (by rw [HQ1.out]; exact hlt)⟩
          obtain ⟨hrd, h1, h2, h3, h4, h5⟩ := HCAP.out p (List.mem_of_getElem? hp)
          obtain ⟨bc, fc, hA, hbc, hcc⟩ := hrd.at_ (by omega)
          have hcs : ∀ j v, p.2.2.2[j]? = some v → w7.cell? ⟨bc, fc + j, none⟩ = some (.int .i64 v) := fun j v hv => hcc j _ (by rw [List.getElem?_map, hv]; rfl)
          obtain ⟨hw1, hw2⟩ := outW_get p1 i p hp
          rw [hA, show p.2.2.2.length = 2 * g0 + 2 from h2] at hw2
          have e1 : wr.cell? ⟨b1, f1 + i * 2, none⟩ = some (.int .i64 (p.1 : Int)) := (HB7r.out.cell (p := ⟨b1, f1 + i * 2, none⟩) hbl1).trans (hc1 (i * 2) _ hw1)
          have e2 : wr.cell? ⟨b1, f1 + i * 2 + 1, none⟩ = some (.slice (some ⟨bc, fc, none⟩) (2 * g0 + 2) p.2.2.1) := (HB7r.out.cell (p := ⟨b1, f1 + i * 2 + 1, none⟩) hbl1).trans (hc1 (i * 2 + 1) _ hw2)
          have c0 : wr.cell? ⟨bc, fc, none⟩ = some (.int .i64 (a0 : Int)) := (HB7r.out.cell (p := ⟨bc, fc, none⟩) hbc).trans (hcs 0 _ h3)
          have c1 : wr.cell? ⟨bc, fc + 1, none⟩ = some (.int .i64 (p.1 : Int)) := (HB7r.out.cell (p := ⟨bc, fc + 1, none⟩) hbc).trans (hcs 1 _ h4)
          have xb : wr.cell? ⟨w.heap.size + 1, 1, none⟩ = some (.int .i64 (a0 : Int)) := (HBX10.out.below HB.out HBX10.out.lt).cell 1
          have HCS := Lib.hid hcs
          have HP5 := Lib.hid h5
          have HE1c := Lib.hid (show w7.cell? ⟨b1, f1 + i * 2, none⟩ = some (.int .i64 (p.1 : Int)) from hc1 (i * 2) _ hw1)
          have HBL1 := Lib.hid hbl1
          have HBC := Lib.hid hbc
          generalize hpy : p.1 = y at *
          generalize hpc : p.2.2.2 = cs at *
          generalize p.2.2.1 = cc at *
          clear hrd h1 h2 h3 h4 h5 hA hbc hcc hcs hw1 hw2 hc1 hp hpy hpc hbl1
          go_wp2_with fail
          go_quiet (fail)
          go_wp2_with fail
          clear e1 e2 c0 c1 xb hi0 hi1 hwa hwb
          go_loopw [18] (fun kv wr => ∃ kk : Nat, 2 ≤ kk ∧ kk ≤ 2 * g0 + 2 ∧ kk % 2 = 0 ∧ kv = .int .i64 (kk : Int) ∧ Below w10.heap.size w10 wr) (fun kv _ => 2 * g0 + 4 - (intOf kv).toNat)
          case atStart => exact ⟨2, Nat.le_refl _, by omega, rfl, rfl, bdrewN HB.out _⟩
          case round =>
            obtain ⟨kk, hk2, hkn, hkp, rfl, hb⟩ := hrel
            have HBi := Lib.hid hb
            have HB7i := Lib.hid (HB10.out.trans (hb.mono HB10.out.size))
            clear hb
            by_cases hkl : kk < 2 * g0 + 2
            · have hkl2 : (kk : Int) < 2 * (g0 : Int) + 2 := by omega
              have hkl3 : (kk : Int) + 1 < 2 * (g0 : Int) + 2 := by omega
              have hkl4 : 0 ≤ (kk : Int) + 1 := by omega
              have hkt : ((kk : Int) + 1).toNat = kk + 1 := by omega
              have hkw : IntKind.i64.wrap ((kk : Int) + 1) = (kk : Int) + 1 := by rw [IntKind.wrap_i64]; omega
              have hkw2 : IntKind.i64.wrap ((kk : Int) + 2) = (kk : Int) + 2 := by rw [IntKind.wrap_i64]; omega
              have hpo := HP5.out (kk / 2) (by omega) (by omega)
              unfold Mean.pairOk at hpo
              rw [show 2 * (kk / 2) = kk from by omega] at hpo
              rcases hpo with ⟨hx, hy⟩ | ⟨x, yy, hx, hy, hax, hxy, hyp⟩
              · have c0 : wr.cell? ⟨bc, fc + kk, none⟩ = some (.int .i64 (-1)) := (HB7i.out.cell (p := ⟨bc, fc + kk, none⟩) HBC.out).trans (HCS.out _ _ hx)
                have c1 : wr.cell? ⟨bc, fc + (kk + 1), none⟩ = some (.int .i64 (-1)) := (HB7i.out.cell (p := ⟨bc, fc + (kk + 1), none⟩) HBC.out).trans (HCS.out _ _ hy)
                clear hx hy
                go_wp2_with fail
                go_roundw
                case rel => exact ⟨kk + 2, by omega, by omega, by omega, by go_num, HBi.out⟩
                case measure => simp [intOf]; omega
              · have c0 : wr.cell? ⟨bc, fc + kk, none⟩ = some (.int .i64 x) := (HB7i.out.cell (p := ⟨bc, fc + kk, none⟩) HBC.out).trans (HCS.out _ _ hx)
                have c1 : wr.cell? ⟨bc, fc + (kk + 1), none⟩ = some (.int .i64 yy) := (HB7i.out.cell (p := ⟨bc, fc + (kk + 1), none⟩) HBC.out).trans (HCS.out _ _ hy)
                have e1 : wr.cell? ⟨b1, f1 + i * 2, none⟩ = some (.int .i64 (y : Int)) := (HB7i.out.cell (p := ⟨b1, f1 + i * 2, none⟩) HBL1.out).trans HE1c.out
                have xb : wr.cell? ⟨w.heap.size + 1, 1, none⟩ = some (.int .i64 (a0 : Int)) := (HBX10.out.below HBi.out HBX10.out.lt).cell 1
                have hm1 : (x == (-1 : Int)) = false := by rw [beq_eq_false_iff_ne]; omega
                have hd1 : decide (x < (a0 : Int)) = false := decide_eq_false (by omega)
                have hd2 : decide (yy < x) = false := decide_eq_false (by omega)
                have hd3 : decide ((y : Int) < yy) = false := decide_eq_false (by omega)
                clear hx hy hax hxy hyp
                go_wp2_with fail
                go_quiet (fail)
                go_wp2_with fail
                go_roundw
                case rel => exact ⟨kk + 2, by omega, by omega, by omega, by go_num, bdrewN HBi.out _⟩
                case measure => simp [intOf]; omega
            · obtain rfl : kk = 2 * g0 + 2 := by omega
              have hkl2 : ¬ (2 * (g0 : Int) + 2 < 2 * (g0 : Int) + 2) := by omega
              go_wp2_with fail
              go_roundw
              case rel => exact ⟨i + 1, by omega, by go_num, HBi.out⟩
              case measure => simp [intOf]; omega
        · obtain rfl : i = q := by omega
          have hlt2 : ¬ ((i : Int) < (i : Int)) := by omega
          go_wp2_with fail
          go_ret
          exact ⟨rfl, HBo10.out.trans (HB.out.mono HBo10.out.size)⟩
end Go.Proofs.Ytjeljlgjkjeloaa
