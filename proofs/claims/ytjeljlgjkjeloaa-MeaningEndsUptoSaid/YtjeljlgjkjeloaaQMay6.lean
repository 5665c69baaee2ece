/- heronlaw06: Much, may. -/
import Derived.Test.YtjeljlgjkjeloaaQRGr
import Derived.Test.YtjeljlgjkjeloaaQRName
import Derived.Test.YtjeljlgjkjeloaaQParE
namespace Go.Proofs.Ytjeljlgjkjeloaa
open Go.RowKit Go.Proofs.Ytjeljlgjkjeloaa.Tr

set_option maxHeartbeats 1000000 in
/-- Is a tree too great to be copied? -/
theorem great5_any (t : Ta) (S : Nat → Prop) (w : World) (h : RT w S t) (hS : ∀ b, S b → b < w.heap.size) :
    Calls Try.prog 22 #[t.val] w fun e w' => e = .returned (.bool (decide (200000 < size t.tr))) ∧ Below w.heap.size w w' := by
  have hb0 : Below w.heap.size w (w.alloc (.cells t.vals.toArray 28)) := (Below.refl _ _).alloc (Nat.le_refl _) _
  have HB0 := Lib.hid hb0
  have HG := Lib.hid (great_any t S (w.alloc (.cells t.vals.toArray 28)) 200000 (h.below hS hb0) (fun b hb => Nat.lt_of_lt_of_le (hS b hb) hb0.size) (by decide) (by decide))
  have hd : decide (max (200000 - (size t.tr : Int)) (-1) < 0) = decide (200000 < size t.tr) := by rw [decide_eq_decide]; omega
  have HD := Lib.hid hd
  clear h hS hd hb0
  cases t with
  | mk k r ra rc ast l sa sc mn mx z ix nm =>
  generalize size (Ta.mk k r ra rc ast l sa sc mn mx z ix nm).tr = q at *
  simp only [Ta.val, Ta.vals] at HG HB0 ⊢
  go_enter Try.func22, Try.ntmps22
  go_wp2_with (go_at_call 19; refine HG.out.mono ?_; rintro e w2 ⟨rfl, hb2⟩; have HB2 := Lib.hid hb2; clear hb2; simp only [])
  go_ret
  exact ⟨ret_bool (by first | exact HD.out | simpa using HD.out), HB0.out.trans (HB2.out.mono HB0.out.size)⟩
/-- Some Bool. -/
def isBool (e : Ending) : Prop := ∃ b : Bool, e = .returned (.bool b)
set_option maxRecDepth 100000 in
set_option maxHeartbeats 2000000 in
theorem much_any (k : Int) (r : List (Int × Int)) (ra : Option Addr) (rc : Nat) (ast : Int) (l : List Ta) (sa : Option Addr) (sc : Nat) (mn mx : Int) (z : Bool) (ix : Int) (nm : ByteArray) (S : Nat → Prop) (At : Option Addr) (n c : Nat) (w : World) (h : RT w S (Ta.mk k r ra rc ast l sa sc mn mx z ix nm)) (hS : ∀ b, S b → b < w.heap.size) (hn : n ≤ c) (hc : c ≤ 9223372036854775807) :
    Calls Try.prog 9 #[(Ta.mk k r ra rc ast l sa sc mn mx z ix nm).val, .slice At n c] w fun e w' => isBool e ∧ Below w.heap.size w w' := by
  have hb0 : Below w.heap.size w (w.alloc (.cells #[.int .i64 k, .slice ra r.length rc, .int .i64 ast, .slice sa l.length sc, .int .i64 mn, .int .i64 mx, .bool z, .int .i64 ix, .string nm] 28)) := (Below.refl _ _).alloc (Nat.le_refl _) _
  have HBL := Lib.hid (Blk.new w 28 [.int .i64 k, .slice ra r.length rc, .int .i64 ast, .slice sa l.length sc, .int .i64 mn, .int .i64 mx, .bool z, .int .i64 ix, .string nm])
  have r0 : (w.alloc (.cells #[.int .i64 k, .slice ra r.length rc, .int .i64 ast, .slice sa l.length sc, .int .i64 mn, .int .i64 mx, .bool z, .int .i64 ix, .string nm] 28)).cell? ⟨w.heap.size, 0, none⟩ = some (.int .i64 k) := HBL.out.cell 0
  have r1 : (w.alloc (.cells #[.int .i64 k, .slice ra r.length rc, .int .i64 ast, .slice sa l.length sc, .int .i64 mn, .int .i64 mx, .bool z, .int .i64 ix, .string nm] 28)).cell? ⟨w.heap.size, 1, none⟩ = some (.slice ra r.length rc) := HBL.out.cell 1
  have r2 : (w.alloc (.cells #[.int .i64 k, .slice ra r.length rc, .int .i64 ast, .slice sa l.length sc, .int .i64 mn, .int .i64 mx, .bool z, .int .i64 ix, .string nm] 28)).cell? ⟨w.heap.size, 2, none⟩ = some (.int .i64 ast) := HBL.out.cell 2
  have r3 : (w.alloc (.cells #[.int .i64 k, .slice ra r.length rc, .int .i64 ast, .slice sa l.length sc, .int .i64 mn, .int .i64 mx, .bool z, .int .i64 ix, .string nm] 28)).cell? ⟨w.heap.size, 3, none⟩ = some (.slice sa l.length sc) := HBL.out.cell 3
  have r4 : (w.alloc (.cells #[.int .i64 k, .slice ra r.length rc, .int .i64 ast, .slice sa l.length sc, .int .i64 mn, .int .i64 mx, .bool z, .int .i64 ix, .string nm] 28)).cell? ⟨w.heap.size, 4, none⟩ = some (.int .i64 mn) := HBL.out.cell 4
  have r5 : (w.alloc (.cells #[.int .i64 k, .slice ra r.length rc, .int .i64 ast, .slice sa l.length sc, .int .i64 mn, .int .i64 mx, .bool z, .int .i64 ix, .string nm] 28)).cell? ⟨w.heap.size, 5, none⟩ = some (.int .i64 mx) := HBL.out.cell 5
  have r6 : (w.alloc (.cells #[.int .i64 k, .slice ra r.length rc, .int .i64 ast, .slice sa l.length sc, .int .i64 mn, .int .i64 mx, .bool z, .int .i64 ix, .string nm] 28)).cell? ⟨w.heap.size, 6, none⟩ = some (.bool z) := HBL.out.cell 6
  have r7 : (w.alloc (.cells #[.int .i64 k, .slice ra r.length rc, .int .i64 ast, .slice sa l.length sc, .int .i64 mn, .int .i64 mx, .bool z, .int .i64 ix, .string nm] 28)).cell? ⟨w.heap.size, 7, none⟩ = some (.int .i64 ix) := HBL.out.cell 7
  have r8 : (w.alloc (.cells #[.int .i64 k, .slice ra r.length rc, .int .i64 ast, .slice sa l.length sc, .int .i64 mn, .int .i64 mx, .bool z, .int .i64 ix, .string nm] 28)).cell? ⟨w.heap.size, 8, none⟩ = some (.string nm) := HBL.out.cell 8
  have HB0 := Lib.hid hb0
  have HT := Lib.hid h
  have HS := Lib.hid hS
  have HSO := Lib.hid (rSound_any (Ta.mk k r ra rc ast l sa sc mn mx z ix nm) S)
  have HSI := Lib.hid (rsize_any (Ta.mk k r ra rc ast l sa sc mn mx z ix nm) S)
  have HGR := Lib.hid (rgrt_any (Ta.mk k r ra rc ast l sa sc mn mx z ix nm) S)
  simp only [Ta.val, Ta.vals] at HSO HSI HGR ⊢
  obtain ⟨tt, htt⟩ : ∃ tt, tt = (Ta.mk k r ra rc ast l sa sc mn mx z ix nm).tr := ⟨_, rfl⟩
  rw [← htt] at HSO HSI HGR
  clear h hS hb0 htt
  go_enter Try.func9, Try.ntmps9
  by_cases h1 : 64 < n
  · have h1i : (64 : Int) < (n : Int) := by omega
    go_wp2_with fail
    go_ret
    exact ⟨⟨_, rfl⟩, HB0.out⟩
  have h1i : ¬ ((64 : Int) < (n : Int)) := by omega
  go_wp2_with fail
  generalize (w.alloc (.cells #[.int .i64 k, .slice ra r.length rc, .int .i64 ast, .slice sa l.length sc, .int .i64 mn, .int .i64 mx, .bool z, .int .i64 ix, .string nm] 28)) = w1 at *
  refine (HSO.out w1 (HT.out.below HS.out HB0.out) (fun b hb => Nat.lt_of_lt_of_le (HS.out b hb) HB0.out.size)).mono ?_
  rintro e w2 ⟨rfl, hb2⟩
  have HB2 := Lib.hid (HB0.out.trans (hb2.mono HB0.out.size))
  have HBL2 := Lib.hid (HBL.out.below hb2 HBL.out.lt)
  have s0 : w2.cell? ⟨w.heap.size, 0, none⟩ = some (.int .i64 k) := HBL2.out.cell 0
  have s1 : w2.cell? ⟨w.heap.size, 1, none⟩ = some (.slice ra r.length rc) := HBL2.out.cell 1
  have s2 : w2.cell? ⟨w.heap.size, 2, none⟩ = some (.int .i64 ast) := HBL2.out.cell 2
  have s3 : w2.cell? ⟨w.heap.size, 3, none⟩ = some (.slice sa l.length sc) := HBL2.out.cell 3
  have s4 : w2.cell? ⟨w.heap.size, 4, none⟩ = some (.int .i64 mn) := HBL2.out.cell 4
  have s5 : w2.cell? ⟨w.heap.size, 5, none⟩ = some (.int .i64 mx) := HBL2.out.cell 5
  have s6 : w2.cell? ⟨w.heap.size, 6, none⟩ = some (.bool z) := HBL2.out.cell 6
  have s7 : w2.cell? ⟨w.heap.size, 7, none⟩ = some (.int .i64 ix) := HBL2.out.cell 7
  have s8 : w2.cell? ⟨w.heap.size, 8, none⟩ = some (.string nm) := HBL2.out.cell 8
  clear hb2 r0 r1 r2 r3 r4 r5 r6 r7 r8
  cases hso : soundB tt with
  | false =>
    unfold sv
    rw [hso]
    simp only []
    go_wp2_with fail
    go_ret
    exact ⟨⟨_, rfl⟩, HB2.out⟩
  | true =>
  unfold sv
  rw [hso]
  simp only []
  have HALL := Lib.hid (sound_parts hso)
  go_wp2_with fail
  refine (HSI.out w2 (HT.out.below HS.out HB2.out) HALL.out (fun b hb => Nat.lt_of_lt_of_le (HS.out b hb) HB2.out.size)).mono ?_
  rintro e w3 ⟨rfl, hb3⟩
  have HB3 := Lib.hid (HB2.out.trans (hb3.mono HB2.out.size))
  have HBL3 := Lib.hid (HBL2.out.below hb3 HBL2.out.lt)
  have z0 : w3.cell? ⟨w.heap.size, 0, none⟩ = some (.int .i64 k) := HBL3.out.cell 0
  have z1 : w3.cell? ⟨w.heap.size, 1, none⟩ = some (.slice ra r.length rc) := HBL3.out.cell 1
  have z2 : w3.cell? ⟨w.heap.size, 2, none⟩ = some (.int .i64 ast) := HBL3.out.cell 2
  have z3 : w3.cell? ⟨w.heap.size, 3, none⟩ = some (.slice sa l.length sc) := HBL3.out.cell 3
  have z4 : w3.cell? ⟨w.heap.size, 4, none⟩ = some (.int .i64 mn) := HBL3.out.cell 4
  have z5 : w3.cell? ⟨w.heap.size, 5, none⟩ = some (.int .i64 mx) := HBL3.out.cell 5
  have z6 : w3.cell? ⟨w.heap.size, 6, none⟩ = some (.bool z) := HBL3.out.cell 6
  have z7 : w3.cell? ⟨w.heap.size, 7, none⟩ = some (.int .i64 ix) := HBL3.out.cell 7
  have z8 : w3.cell? ⟨w.heap.size, 8, none⟩ = some (.string nm) := HBL3.out.cell 8
  clear hb3 s0 s1 s2 s3 s4 s5 s6 s7 s8
  obtain ⟨q, hq⟩ : ∃ q : Nat, q = min (uz tt) 1073741824 := ⟨_, rfl⟩
  rw [← hq]
  clear hq
  simp only []
  have hgb := grt_bd tt HALL.out
  obtain ⟨g0, hg0⟩ : ∃ g0 : Nat, greatest tt = (g0 : Int) := ⟨(greatest tt).toNat, by omega⟩
  rw [hg0] at hgb HGR
  by_cases h2 : q ≤ 2000
  · have h2i : (q : Int) ≤ 2000 := by omega
    obtain ⟨p1, hp1⟩ : ∃ p1 : Nat, p1 = q * (n + 1) := ⟨_, rfl⟩
    obtain ⟨p2, hp2⟩ : ∃ p2 : Nat, p2 = p1 * (2 * g0 + 2) := ⟨_, rfl⟩
    have hb1 : p1 ≤ 2000 * 65 := hp1 ▸ Nat.mul_le_mul h2 (by omega)
    have hb2 : p2 ≤ 2000 * 65 * 1002 := hp2 ▸ Nat.mul_le_mul hb1 (by omega)
    have hw1 : IntKind.i64.wrap ((n : Int) + 1) = ((n + 1 : Nat) : Int) := by rw [IntKind.wrap_i64]; omega
    have hw2 : IntKind.i64.wrap ((q : Int) * ((n + 1 : Nat) : Int)) = (p1 : Int) := by rw [show (q : Int) * ((n + 1 : Nat) : Int) = (p1 : Int) from by rw [hp1]; simp, IntKind.wrap_i64]; omega
    have hw3 : IntKind.i64.wrap (2 * (g0 : Int)) = 2 * (g0 : Int) := by rw [IntKind.wrap_i64]; omega
    have hw4 : IntKind.i64.wrap (2 * (g0 : Int) + 2) = ((2 * g0 + 2 : Nat) : Int) := by rw [IntKind.wrap_i64]; omega
    have hw5 : IntKind.i64.wrap ((p1 : Int) * ((2 * g0 + 2 : Nat) : Int)) = (p2 : Int) := by rw [show (p1 : Int) * ((2 * g0 + 2 : Nat) : Int) = (p2 : Int) from by rw [hp2]; simp, IntKind.wrap_i64]; omega
    have HGG := Lib.hid (HGR.out w3 (HT.out.below HS.out HB3.out) (fun b hb => Nat.lt_of_lt_of_le (HS.out b hb) HB3.out.size))
    clear hp1 hp2 hb1 hb2 hg0 hgb hso HSI HSO HGR
    go_wp2_with fail
    refine HGG.out.mono ?_
    rintro e w4 ⟨rfl, hb4⟩
    have HB4 := Lib.hid (HB3.out.trans (hb4.mono HB3.out.size))
    clear hb4
    simp only []
    go_wp2_with fail
    go_ret
    exact ⟨⟨_, rfl⟩, HB4.out⟩
  · have h2i : ¬ (q : Int) ≤ 2000 := by omega
    go_wp2_with fail
    go_ret
    exact ⟨⟨_, rfl⟩, HB3.out⟩
/-- May a tree, a text, a place be asked? -/
def mayB (t : Tr.Tr) (n : Nat) (at_ : Int) : Bool := !decide (200000 < size t) && (decide (n ≤ 64) && (decide (0 ≤ at_) && (decide (at_ ≤ (n : Int)) && (soundB t && decide (uz t ≤ 2000)))))
set_option maxRecDepth 100000 in
set_option maxHeartbeats 2000000 in
theorem may6_any (k : Int) (r : List (Int × Int)) (ra : Option Addr) (rc : Nat) (ast : Int) (l : List Ta) (sa : Option Addr) (sc : Nat) (mn mx : Int) (z : Bool) (ix : Int) (nm : ByteArray) (S : Nat → Prop) (At : Option Addr) (n c : Nat) (at_ : Int) (w : World) (h : RT w S (Ta.mk k r ra rc ast l sa sc mn mx z ix nm)) (hS : ∀ b, S b → b < w.heap.size) (hn : n ≤ c) (hc : c ≤ 9223372036854775807) :
    Calls Try.prog 10 #[(Ta.mk k r ra rc ast l sa sc mn mx z ix nm).val, .agg #[.slice At n c, .int .i64 at_]] w fun e w' => e = .returned (.bool (mayB (Ta.mk k r ra rc ast l sa sc mn mx z ix nm).tr n at_)) ∧ Below w.heap.size w w' := by
  have hb0 : Below w.heap.size w ((w.alloc (.cells #[.int .i64 k, .slice ra r.length rc, .int .i64 ast, .slice sa l.length sc, .int .i64 mn, .int .i64 mx, .bool z, .int .i64 ix, .string nm] 28)).alloc (.cells #[.slice At n c, .int .i64 at_] 31)) := ((Below.refl _ _).alloc (Nat.le_refl _) _).alloc (by simp) _
  have HBL := Lib.hid ((Blk.new w 28 [.int .i64 k, .slice ra r.length rc, .int .i64 ast, .slice sa l.length sc, .int .i64 mn, .int .i64 mx, .bool z, .int .i64 ix, .string nm]).alloc (.cells #[.slice At n c, .int .i64 at_] 31))
  have HBX := Lib.hid (show Blk ((w.alloc (.cells #[.int .i64 k, .slice ra r.length rc, .int .i64 ast, .slice sa l.length sc, .int .i64 mn, .int .i64 mx, .bool z, .int .i64 ix, .string nm] 28)).alloc (.cells #[.slice At n c, .int .i64 at_] 31)) (w.heap.size + 1) 31 [.slice At n c, .int .i64 at_] from by
    have := Blk.new (w.alloc (.cells #[.int .i64 k, .slice ra r.length rc, .int .i64 ast, .slice sa l.length sc, .int .i64 mn, .int .i64 mx, .bool z, .int .i64 ix, .string nm] 28)) 31 [.slice At n c, .int .i64 at_]
    rwa [show (w.alloc (.cells #[.int .i64 k, .slice ra r.length rc, .int .i64 ast, .slice sa l.length sc, .int .i64 mn, .int .i64 mx, .bool z, .int .i64 ix, .string nm] 28)).heap.size = w.heap.size + 1 from by simp] at this)
  have r0 : ((w.alloc (.cells #[.int .i64 k, .slice ra r.length rc, .int .i64 ast, .slice sa l.length sc, .int .i64 mn, .int .i64 mx, .bool z, .int .i64 ix, .string nm] 28)).alloc (.cells #[.slice At n c, .int .i64 at_] 31)).cell? ⟨w.heap.size, 0, none⟩ = some (.int .i64 k) := HBL.out.cell 0
  have r1 : ((w.alloc (.cells #[.int .i64 k, .slice ra r.length rc, .int .i64 ast, .slice sa l.length sc, .int .i64 mn, .int .i64 mx, .bool z, .int .i64 ix, .string nm] 28)).alloc (.cells #[.slice At n c, .int .i64 at_] 31)).cell? ⟨w.heap.size, 1, none⟩ = some (.slice ra r.length rc) := HBL.out.cell 1
  have r2 : ((w.alloc (.cells #[.int .i64 k, .slice ra r.length rc, .int .i64 ast, .slice sa l.length sc, .int .i64 mn, .int .i64 mx, .bool z, .int .i64 ix, .string nm] 28)).alloc (.cells #[.slice At n c, .int .i64 at_] 31)).cell? ⟨w.heap.size, 2, none⟩ = some (.int .i64 ast) := HBL.out.cell 2
  have r3 : ((w.alloc (.cells #[.int .i64 k, .slice ra r.length rc, .int .i64 ast, .slice sa l.length sc, .int .i64 mn, .int .i64 mx, .bool z, .int .i64 ix, .string nm] 28)).alloc (.cells #[.slice At n c, .int .i64 at_] 31)).cell? ⟨w.heap.size, 3, none⟩ = some (.slice sa l.length sc) := HBL.out.cell 3
  have r4 : ((w.alloc (.cells #[.int .i64 k, .slice ra r.length rc, .int .i64 ast, .slice sa l.length sc, .int .i64 mn, .int .i64 mx, .bool z, .int .i64 ix, .string nm] 28)).alloc (.cells #[.slice At n c, .int .i64 at_] 31)).cell? ⟨w.heap.size, 4, none⟩ = some (.int .i64 mn) := HBL.out.cell 4
  have r5 : ((w.alloc (.cells #[.int .i64 k, .slice ra r.length rc, .int .i64 ast, .slice sa l.length sc, .int .i64 mn, .int .i64 mx, .bool z, .int .i64 ix, .string nm] 28)).alloc (.cells #[.slice At n c, .int .i64 at_] 31)).cell? ⟨w.heap.size, 5, none⟩ = some (.int .i64 mx) := HBL.out.cell 5
  have r6 : ((w.alloc (.cells #[.int .i64 k, .slice ra r.length rc, .int .i64 ast, .slice sa l.length sc, .int .i64 mn, .int .i64 mx, .bool z, .int .i64 ix, .string nm] 28)).alloc (.cells #[.slice At n c, .int .i64 at_] 31)).cell? ⟨w.heap.size, 6, none⟩ = some (.bool z) := HBL.out.cell 6
  have r7 : ((w.alloc (.cells #[.int .i64 k, .slice ra r.length rc, .int .i64 ast, .slice sa l.length sc, .int .i64 mn, .int .i64 mx, .bool z, .int .i64 ix, .string nm] 28)).alloc (.cells #[.slice At n c, .int .i64 at_] 31)).cell? ⟨w.heap.size, 7, none⟩ = some (.int .i64 ix) := HBL.out.cell 7
  have r8 : ((w.alloc (.cells #[.int .i64 k, .slice ra r.length rc, .int .i64 ast, .slice sa l.length sc, .int .i64 mn, .int .i64 mx, .bool z, .int .i64 ix, .string nm] 28)).alloc (.cells #[.slice At n c, .int .i64 at_] 31)).cell? ⟨w.heap.size, 8, none⟩ = some (.string nm) := HBL.out.cell 8
  have HB0 := Lib.hid hb0
  have HT := Lib.hid h
  have HS := Lib.hid hS
  have HSO := Lib.hid (rSound_any (Ta.mk k r ra rc ast l sa sc mn mx z ix nm) S)
  have HSI := Lib.hid (rsize_any (Ta.mk k r ra rc ast l sa sc mn mx z ix nm) S)
  have HGR := Lib.hid (great5_any (Ta.mk k r ra rc ast l sa sc mn mx z ix nm) S)
  simp only [Ta.val, Ta.vals] at HSO HSI HGR ⊢
  obtain ⟨tt, htt⟩ : ∃ tt, tt = (Ta.mk k r ra rc ast l sa sc mn mx z ix nm).tr := ⟨_, rfl⟩
  rw [← htt] at HSO HSI HGR ⊢
  obtain ⟨R, hR⟩ : ∃ R, R = mayB tt n at_ := ⟨_, rfl⟩
  rw [← hR]
  have HR := Lib.hid hR
  clear h hS hb0 htt hR
  go_enter Try.func10, Try.ntmps10
  go_wp2_with fail
  generalize ((w.alloc (.cells #[.int .i64 k, .slice ra r.length rc, .int .i64 ast, .slice sa l.length sc, .int .i64 mn, .int .i64 mx, .bool z, .int .i64 ix, .string nm] 28)).alloc (.cells #[.slice At n c, .int .i64 at_] 31)) = w1 at *
  refine (HGR.out w1 (HT.out.below HS.out HB0.out) (fun b hb => Nat.lt_of_lt_of_le (HS.out b hb) HB0.out.size)).mono ?_
  rintro e w2 ⟨rfl, hb2⟩
  have HB2 := Lib.hid (HB0.out.trans (hb2.mono HB0.out.size))
  have HBL2 := Lib.hid (HBL.out.below hb2 HBL.out.lt)
  have HBX2 := Lib.hid (HBX.out.below hb2 HBX.out.lt)
  have s0 : w2.cell? ⟨w.heap.size, 0, none⟩ = some (.int .i64 k) := HBL2.out.cell 0
  have s1 : w2.cell? ⟨w.heap.size, 1, none⟩ = some (.slice ra r.length rc) := HBL2.out.cell 1
  have s2 : w2.cell? ⟨w.heap.size, 2, none⟩ = some (.int .i64 ast) := HBL2.out.cell 2
  have s3 : w2.cell? ⟨w.heap.size, 3, none⟩ = some (.slice sa l.length sc) := HBL2.out.cell 3
  have s4 : w2.cell? ⟨w.heap.size, 4, none⟩ = some (.int .i64 mn) := HBL2.out.cell 4
  have s5 : w2.cell? ⟨w.heap.size, 5, none⟩ = some (.int .i64 mx) := HBL2.out.cell 5
  have s6 : w2.cell? ⟨w.heap.size, 6, none⟩ = some (.bool z) := HBL2.out.cell 6
  have s7 : w2.cell? ⟨w.heap.size, 7, none⟩ = some (.int .i64 ix) := HBL2.out.cell 7
  have s8 : w2.cell? ⟨w.heap.size, 8, none⟩ = some (.string nm) := HBL2.out.cell 8
  have x0 : w2.cell? ⟨w.heap.size + 1, 0, none⟩ = some (.slice At n c) := HBX2.out.cell 0
  have x1 : w2.cell? ⟨w.heap.size + 1, 1, none⟩ = some (.int .i64 at_) := HBX2.out.cell 1
  clear hb2 r0 r1 r2 r3 r4 r5 r6 r7 r8
  cases hgt : decide (200000 < size tt) with
  | true =>
    have HRR := Lib.hid (show R = false from by rw [HR.out, mayB, hgt]; rfl)
    clear hgt
    simp only []
    go_wp2_with fail
    go_ret
    exact ⟨ret_bool (by rw [HRR.out]), HB2.out⟩
  | false =>
  simp only []
  by_cases h1 : 64 < n
  · have h1i : (64 : Int) < (n : Int) := by omega
    have HRR := Lib.hid (show R = false from by rw [HR.out, mayB, hgt, show decide (n ≤ 64) = false from decide_eq_false (by omega)]; rfl)
    clear hgt
    go_wp2_with fail
    go_ret
    exact ⟨ret_bool (by rw [HRR.out]), HB2.out⟩
  have h1i : ¬ ((64 : Int) < (n : Int)) := by omega
  by_cases h3 : at_ < 0
  · have HRR := Lib.hid (show R = false from by rw [HR.out, mayB, hgt, show decide (n ≤ 64) = true from decide_eq_true (by omega), show decide (0 ≤ at_) = false from decide_eq_false (by omega)]; rfl)
    clear hgt
    go_wp2_with fail
    go_ret
    exact ⟨ret_bool (by rw [HRR.out]), HB2.out⟩
  by_cases h4 : (n : Int) < at_
  · have HRR := Lib.hid (show R = false from by rw [HR.out, mayB, hgt, show decide (n ≤ 64) = true from decide_eq_true (by omega), show decide (0 ≤ at_) = true from decide_eq_true (by omega), show decide (at_ ≤ (n : Int)) = false from decide_eq_false (by omega)]; rfl)
    clear hgt
    go_wp2_with fail
    go_ret
    exact ⟨ret_bool (by rw [HRR.out]), HB2.out⟩
  have HR2 := Lib.hid (show R = (soundB tt && decide (uz tt ≤ 2000)) from by rw [HR.out, mayB, hgt, show decide (n ≤ 64) = true from decide_eq_true (by omega), show decide (0 ≤ at_) = true from decide_eq_true (by omega), show decide (at_ ≤ (n : Int)) = true from decide_eq_true (by omega)]; rfl)
  clear hgt
  go_wp2_with fail
  refine (HSO.out w2 (HT.out.below HS.out HB2.out) (fun b hb => Nat.lt_of_lt_of_le (HS.out b hb) HB2.out.size)).mono ?_
  rintro e w3 ⟨rfl, hb3⟩
  have HB3 := Lib.hid (HB2.out.trans (hb3.mono HB2.out.size))
  have HBL3 := Lib.hid (HBL2.out.below hb3 HBL2.out.lt)
  have z0 : w3.cell? ⟨w.heap.size, 0, none⟩ = some (.int .i64 k) := HBL3.out.cell 0
  have z1 : w3.cell? ⟨w.heap.size, 1, none⟩ = some (.slice ra r.length rc) := HBL3.out.cell 1
  have z2 : w3.cell? ⟨w.heap.size, 2, none⟩ = some (.int .i64 ast) := HBL3.out.cell 2
  have z3 : w3.cell? ⟨w.heap.size, 3, none⟩ = some (.slice sa l.length sc) := HBL3.out.cell 3
  have z4 : w3.cell? ⟨w.heap.size, 4, none⟩ = some (.int .i64 mn) := HBL3.out.cell 4
  have z5 : w3.cell? ⟨w.heap.size, 5, none⟩ = some (.int .i64 mx) := HBL3.out.cell 5
  have z6 : w3.cell? ⟨w.heap.size, 6, none⟩ = some (.bool z) := HBL3.out.cell 6
  have z7 : w3.cell? ⟨w.heap.size, 7, none⟩ = some (.int .i64 ix) := HBL3.out.cell 7
  have z8 : w3.cell? ⟨w.heap.size, 8, none⟩ = some (.string nm) := HBL3.out.cell 8
  clear hb3 s0 s1 s2 s3 s4 s5 s6 s7 s8 x0 x1
  cases hso : soundB tt with
  | false =>
    have HRR := Lib.hid (show R = false from by rw [HR2.out, hso]; rfl)
    unfold sv
    rw [hso]
    simp only []
    clear hso
    go_wp2_with fail
    go_ret
    exact ⟨ret_bool (by rw [HRR.out]), HB3.out⟩
  | true =>
  unfold sv
  rw [hso]
  simp only []
  have HALL := Lib.hid (sound_parts hso)
  have HRR := Lib.hid (show R = decide (uz tt ≤ 2000) from by rw [HR2.out, hso]; rfl)
  clear hso
  go_wp2_with fail
  refine (HSI.out w3 (HT.out.below HS.out HB3.out) HALL.out (fun b hb => Nat.lt_of_lt_of_le (HS.out b hb) HB3.out.size)).mono ?_
  rintro e w4 ⟨rfl, hb4⟩
  have HB4 := Lib.hid (HB3.out.trans (hb4.mono HB3.out.size))
  clear hb4 z0 z1 z2 z3 z4 z5 z6 z7 z8
  obtain ⟨q, hq⟩ : ∃ q : Nat, q = min (uz tt) 1073741824 := ⟨_, rfl⟩
  rw [← hq]
  have HQ := Lib.hid hq
  clear hq
  simp only []
  go_wp2_with fail
  go_ret
  exact ⟨ret_bool (by rw [HRR.out]; first | (rw [decide_eq_decide]; have := HQ.out; omega) | (have := HQ.out; simp; omega)), HB4.out⟩
end Go.Proofs.Ytjeljlgjkjeloaa
