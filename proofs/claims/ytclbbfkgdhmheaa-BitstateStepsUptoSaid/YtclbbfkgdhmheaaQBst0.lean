/- BitstateSteps: what stands while the places are tried. -/
import Derived.Test.YtclbbfkgdhmheaaQRunMain
import Derived.Test.YtclbbfkgdhmheaaQSameF
import Derived.Test.YtclbbfkgdhmheaaQSteps
import Derived.Test.YtclbbfkgdhmheaaQCompile
import Derived.Test.YtclbbfkgdhmheaaQGreat
import Derived.Test.YtclbbfkgdhmheaaQAwake12
import Derived.Handy
import Derived.Test.YtclbbfkgdhmheaaQNOpen
namespace Go.Proofs.Ytclbbfkgdhmheaa
open Go.RowKit Go.Proofs.Ytclbbfkgdhmheaa.Mach

theorem wrI12 {x : Int} (h : -9223372036854775808 ≤ x ∧ x < 9223372036854775808) : IntKind.i64.wrap x = x := by rw [IntKind.wrap_i64]; omega
/-- The words of a found run. -/
def fdV (b : Bool) (X : Option Addr) (k c : Nat) (wh st : Int) : List Value := [.bool b, .slice X k c, .int .i64 wh, .int .i64 st]
/-- What stands while the places are tried. -/
structure L12 (w : World) (ask pv fv : List Value) (pb fb : Nat) (Ap : Option Addr) (np cp : Nat) (Lp : List InV) (At : Option Addr) (nt ct : Nat) (t : List Int) (X : Option Addr) (c1 : Nat) (l1 : List Int) (W : World) : Prop where
  below : Below w.heap.size w W
  ask : Blk W (w.heap.size + 1) 31 ask
  pb : Blk W pb 28 pv
  fb : Blk W fb 38 fv
  rp : ReadsP W W.heap.size Ap np cp Lp
  rt : Reads W W.heap.size 1 At nt ct (t.map (Value.int .i64))
  own : Reads W W.heap.size 1 X l1.length c1 (l1.map (Value.int .i64))
section
variable {w W W' : World} {ask pv fv : List Value} {pb fb np cp nt ct c1 : Nat} {Ap At X : Option Addr} {Lp : List InV} {t l1 : List Int}
theorem L12.later (h : L12 w ask pv fv pb fb Ap np cp Lp At nt ct t X c1 l1 W) (hb : Below W.heap.size W W') : L12 w ask pv fv pb fb Ap np cp Lp At nt ct t X c1 l1 W' :=
  ⟨h.below.trans (hb.mono h.below.size), h.ask.below hb h.ask.lt, h.pb.below hb h.pb.lt, h.fb.below hb h.fb.lt, (h.rp.below hb).more hb.size, (h.rt.below hb).more hb.size, (h.own.below hb).more hb.size⟩
end
theorem kept3p (w : World) (g : Nat) (x0 x1 x2 : Value) : Kept w (((w.setCell ⟨g, 0, none⟩ x0).setCell ⟨g, 1, none⟩ x1).setCell ⟨g, 2, none⟩ x2) [g] :=
  (((Kept.setCell ⟨g, 0, none⟩ x0).trans (Kept.setCell ⟨g, 1, none⟩ x1)).trans (Kept.setCell ⟨g, 2, none⟩ x2)).more (by intro b hb; simp at hb; exact .inl (by simp [hb]))
end Go.Proofs.Ytclbbfkgdhmheaa
/- heronlaw12.BitstateSteps: the walk. -/
namespace Go.Proofs.Ytclbbfkgdhmheaa
open Go.RowKit Go.Proofs.Ytclbbfkgdhmheaa.Mach Go.Proofs.Ytclbbfkgdhmheaa.Tr

set_option maxRecDepth 100000 in
set_option maxHeartbeats 8000000 in
theorem bst_ok (k : Int) (r : List (Int × Int)) (ra : Option Addr) (rc : Nat) (ast : Int) (l : List Ta) (sa : Option Addr) (sc : Nat) (mn mx : Int) (z : Bool) (ix : Int) (nm : ByteArray) (S : Nat → Prop) (A At : Option Addr) (n c nt ct : Nat) (L : List InV) (t : List Int) (start caps at_ : Int) (anch : Bool) (w : World) (h : RT w S (Ta.mk k r ra rc ast l sa sc mn mx z ix nm)) (hS : ∀ b, S b → b < w.heap.size) (hP : ReadsP w w.heap.size A n c L) (hT : Reads w w.heap.size 1 At nt ct (t.map (Value.int .i64))) (hc : cmpE (Ta.mk k r ra rc ast l sa sc mn mx z ix nm).tr = 0) :
    Calls Try.prog 3 #[(Ta.mk k r ra rc ast l sa sc mn mx z ix nm).val, .agg #[.slice A n c, .int .i64 start, .int .i64 caps, .slice At nt ct, .int .i64 at_, .bool anch]] w fun e w' => e = .returned (.bool true) ∧ Below w.heap.size w w' := by
  have hb0 : Below w.heap.size w ((w.alloc (.cells #[.int .i64 k, .slice ra r.length rc, .int .i64 ast, .slice sa l.length sc, .int .i64 mn, .int .i64 mx, .bool z, .int .i64 ix, .string nm] 25)).alloc (.cells #[.slice A n c, .int .i64 start, .int .i64 caps, .slice At nt ct, .int .i64 at_, .bool anch] 31)) := ((Below.refl _ _).alloc (Nat.le_refl _) _).alloc (by simp) _
  have HX0 := Lib.hid ((Blk.new w 25 [.int .i64 k, .slice ra r.length rc, .int .i64 ast, .slice sa l.length sc, .int .i64 mn, .int .i64 mx, .bool z, .int .i64 ix, .string nm]).alloc (.cells #[.slice A n c, .int .i64 start, .int .i64 caps, .slice At nt ct, .int .i64 at_, .bool anch] 31))
  have hA0 : Blk ((w.alloc (.cells #[.int .i64 k, .slice ra r.length rc, .int .i64 ast, .slice sa l.length sc, .int .i64 mn, .int .i64 mx, .bool z, .int .i64 ix, .string nm] 25)).alloc (.cells #[.slice A n c, .int .i64 start, .int .i64 caps, .slice At nt ct, .int .i64 at_, .bool anch] 31)) (w.heap.size + 1) 31 [.slice A n c, .int .i64 start, .int .i64 caps, .slice At nt ct, .int .i64 at_, .bool anch] := by
    have := Blk.new (w.alloc (.cells #[.int .i64 k, .slice ra r.length rc, .int .i64 ast, .slice sa l.length sc, .int .i64 mn, .int .i64 mx, .bool z, .int .i64 ix, .string nm] 25)) 31 [.slice A n c, .int .i64 start, .int .i64 caps, .slice At nt ct, .int .i64 at_, .bool anch]
    rw [show (w.alloc (.cells #[.int .i64 k, .slice ra r.length rc, .int .i64 ast, .slice sa l.length sc, .int .i64 mn, .int .i64 mx, .bool z, .int .i64 ix, .string nm] 25)).heap.size = w.heap.size + 1 from by simp] at this
    exact this
  have HA0 := Lib.hid hA0
  have HN0 := Lib.hid h
  have HSS := Lib.hid hS
  have HB0 := Lib.hid hb0
  have HPW := Lib.hid hP
  have HTW := Lib.hid hT
  have hs0 : w.heap.size + 2 ≤ ((w.alloc (.cells #[.int .i64 k, .slice ra r.length rc, .int .i64 ast, .slice sa l.length sc, .int .i64 mn, .int .i64 mx, .bool z, .int .i64 ix, .string nm] 25)).alloc (.cells #[.slice A n c, .int .i64 start, .int .i64 caps, .slice At nt ct, .int .i64 at_, .bool anch] 31)).heap.size := by simp
  have HC := Lib.hid hc
  have htl : t.length = nt := by have := hT.len; simpa using this
  have HTL := Lib.hid htl
  have HCO := Lib.hid (fun u hu hs => compile_any (Ta.mk k r ra rc ast l sa sc mn mx z ix nm) S u hu hs)
  have HDP := Lib.hid (fun u hu hs => deep_any (Ta.mk k r ra rc ast l sa sc mn mx z ix nm) S u hu hs)
  have HHV := Lib.hid (fun u hu hs => heavy_any (Ta.mk k r ra rc ast l sa sc mn mx z ix nm) S u hu hs)
  clear h hS hb0 hP hT hA0 hc htl
  simp only [Ta.val, Ta.vals] at HCO HDP HHV ⊢
  go_enter Try.func3, Try.ntmps3
  go_wp2_with fail
  generalize ((w.alloc (.cells #[.int .i64 k, .slice ra r.length rc, .int .i64 ast, .slice sa l.length sc, .int .i64 mn, .int .i64 mx, .bool z, .int .i64 ix, .string nm] 25)).alloc (.cells #[.slice A n c, .int .i64 start, .int .i64 caps, .slice At nt ct, .int .i64 at_, .bool anch] 31)) = w0 at *
  refine (HDP.out w0 (HN0.out.below HSS.out HB0.out) (fun b hb => Nat.lt_of_lt_of_le (HSS.out b hb) HB0.out.size)).mono ?_
  rintro e w1 ⟨rfl, hb⟩
  have HB1 := Lib.hid (HB0.out.trans (hb.mono HB0.out.size))
  have hs1 := Nat.le_trans hs0 hb.size
  have HX1 := Lib.hid (HX0.out.below hb HX0.out.lt)
  have HA1 := Lib.hid (HA0.out.below hb HA0.out.lt)
  clear hb
  obtain ⟨dp, hdp⟩ : ∃ q, q = decide (4194304 < Tr.size (Ta.mk k r ra rc ast l sa sc mn mx z ix nm).tr) := ⟨_, rfl⟩
  rw [← hdp]
  clear hdp HDP
  simp only []
  cases dp with
  | true =>
    go_wp2_with fail
    go_ret
    exact ⟨rfl, HB1.out⟩
  | false =>
  have t0 : w1.cell? ⟨w.heap.size, 0, none⟩ = some (.int .i64 k) := HX1.out.cell 0
  have t1 : w1.cell? ⟨w.heap.size, 1, none⟩ = some (.slice ra r.length rc) := HX1.out.cell 1
  have t2 : w1.cell? ⟨w.heap.size, 2, none⟩ = some (.int .i64 ast) := HX1.out.cell 2
  have t3 : w1.cell? ⟨w.heap.size, 3, none⟩ = some (.slice sa l.length sc) := HX1.out.cell 3
  have t4 : w1.cell? ⟨w.heap.size, 4, none⟩ = some (.int .i64 mn) := HX1.out.cell 4
  have t5 : w1.cell? ⟨w.heap.size, 5, none⟩ = some (.int .i64 mx) := HX1.out.cell 5
  have t6 : w1.cell? ⟨w.heap.size, 6, none⟩ = some (.bool z) := HX1.out.cell 6
  have t7 : w1.cell? ⟨w.heap.size, 7, none⟩ = some (.int .i64 ix) := HX1.out.cell 7
  have t8 : w1.cell? ⟨w.heap.size, 8, none⟩ = some (.string nm) := HX1.out.cell 8
  go_wp2_with fail
  refine (HHV.out w1 (HN0.out.below HSS.out HB1.out) (fun b hb => Nat.lt_of_lt_of_le (HSS.out b hb) HB1.out.size)).mono ?_
  rintro e w2 ⟨⟨hv, rfl⟩, hb⟩
  clear t0 t1 t2 t3 t4 t5 t6 t7 t8 HHV
  have HB2 := Lib.hid (HB1.out.trans (hb.mono HB1.out.size))
  have hs2 := Nat.le_trans hs1 hb.size
  have HX2 := Lib.hid (HX1.out.below hb HX1.out.lt)
  have HA2 := Lib.hid (HA1.out.below hb HA1.out.lt)
  clear hb
  simp only []
  cases hv with
  | true =>
    go_wp2_with fail
    go_ret
    exact ⟨rfl, HB2.out⟩
  | false =>
  go_wp2_with fail
  refine (awake12_any w2).mono ?_
  rintro e w3 ⟨rfl, hb⟩
  have HB3 := Lib.hid (HB2.out.trans (hb.mono HB2.out.size))
  have hs3 := Nat.le_trans hs2 hb.size
  have HX3 := Lib.hid (HX2.out.below hb HX2.out.lt)
  have HA3 := Lib.hid (HA2.out.below hb HA2.out.lt)
  clear hb
  have t0 : w3.cell? ⟨w.heap.size, 0, none⟩ = some (.int .i64 k) := HX3.out.cell 0
  have t1 : w3.cell? ⟨w.heap.size, 1, none⟩ = some (.slice ra r.length rc) := HX3.out.cell 1
  have t2 : w3.cell? ⟨w.heap.size, 2, none⟩ = some (.int .i64 ast) := HX3.out.cell 2
  have t3 : w3.cell? ⟨w.heap.size, 3, none⟩ = some (.slice sa l.length sc) := HX3.out.cell 3
  have t4 : w3.cell? ⟨w.heap.size, 4, none⟩ = some (.int .i64 mn) := HX3.out.cell 4
  have t5 : w3.cell? ⟨w.heap.size, 5, none⟩ = some (.int .i64 mx) := HX3.out.cell 5
  have t6 : w3.cell? ⟨w.heap.size, 6, none⟩ = some (.bool z) := HX3.out.cell 6
  have t7 : w3.cell? ⟨w.heap.size, 7, none⟩ = some (.int .i64 ix) := HX3.out.cell 7
  have t8 : w3.cell? ⟨w.heap.size, 8, none⟩ = some (.string nm) := HX3.out.cell 8
  have a0 : w3.cell? ⟨w.heap.size + 1, 0, none⟩ = some (.slice A n c) := HA3.out.cell 0
  have a1 : w3.cell? ⟨w.heap.size + 1, 1, none⟩ = some (.int .i64 start) := HA3.out.cell 1
  have a2 : w3.cell? ⟨w.heap.size + 1, 2, none⟩ = some (.int .i64 caps) := HA3.out.cell 2
  have a3 : w3.cell? ⟨w.heap.size + 1, 3, none⟩ = some (.slice At nt ct) := HA3.out.cell 3
  have a4 : w3.cell? ⟨w.heap.size + 1, 4, none⟩ = some (.int .i64 at_) := HA3.out.cell 4
  have a5 : w3.cell? ⟨w.heap.size + 1, 5, none⟩ = some (.bool anch) := HA3.out.cell 5
  simp only []
  have hbp : Below w3.heap.size w3 (w3.alloc (.cells #[.slice A n c, .int .i64 start, .int .i64 caps] 28)) := (Below.refl _ _).alloc (Nat.le_refl _) _
  have HB4 := Lib.hid (HB3.out.trans (hbp.mono HB3.out.size))
  have hs4 := Nat.le_trans hs3 hbp.size
  have HX4 := Lib.hid (HX3.out.below hbp HX3.out.lt)
  have HA4 := Lib.hid (HA3.out.below hbp HA3.out.lt)
  have HQ4 := Lib.hid (Blk.new w3 28 [.slice A n c, .int .i64 start, .int .i64 caps])
  clear t0 t1 t2 t3 t4 t5 t6 t7 t8
  have t0 : (w3.alloc (.cells #[.slice A n c, .int .i64 start, .int .i64 caps] 28)).cell? ⟨w.heap.size, 0, none⟩ = some (.int .i64 k) := HX4.out.cell 0
  have t1 : (w3.alloc (.cells #[.slice A n c, .int .i64 start, .int .i64 caps] 28)).cell? ⟨w.heap.size, 1, none⟩ = some (.slice ra r.length rc) := HX4.out.cell 1
  have t2 : (w3.alloc (.cells #[.slice A n c, .int .i64 start, .int .i64 caps] 28)).cell? ⟨w.heap.size, 2, none⟩ = some (.int .i64 ast) := HX4.out.cell 2
  have t3 : (w3.alloc (.cells #[.slice A n c, .int .i64 start, .int .i64 caps] 28)).cell? ⟨w.heap.size, 3, none⟩ = some (.slice sa l.length sc) := HX4.out.cell 3
  have t4 : (w3.alloc (.cells #[.slice A n c, .int .i64 start, .int .i64 caps] 28)).cell? ⟨w.heap.size, 4, none⟩ = some (.int .i64 mn) := HX4.out.cell 4
  have t5 : (w3.alloc (.cells #[.slice A n c, .int .i64 start, .int .i64 caps] 28)).cell? ⟨w.heap.size, 5, none⟩ = some (.int .i64 mx) := HX4.out.cell 5
  have t6 : (w3.alloc (.cells #[.slice A n c, .int .i64 start, .int .i64 caps] 28)).cell? ⟨w.heap.size, 6, none⟩ = some (.bool z) := HX4.out.cell 6
  have t7 : (w3.alloc (.cells #[.slice A n c, .int .i64 start, .int .i64 caps] 28)).cell? ⟨w.heap.size, 7, none⟩ = some (.int .i64 ix) := HX4.out.cell 7
  have t8 : (w3.alloc (.cells #[.slice A n c, .int .i64 start, .int .i64 caps] 28)).cell? ⟨w.heap.size, 8, none⟩ = some (.string nm) := HX4.out.cell 8
  go_wp2_with fail
  clear hbp t0 t1 t2 t3 t4 t5 t6 t7 t8 a0 a1 a2 a3 a4 a5
  generalize (w3.alloc (.cells #[.slice A n c, .int .i64 start, .int .i64 caps] 28)) = w4 at *
  generalize hp0 : w3.heap.size = p0 at *
  refine (HCO.out w4 (HN0.out.below HSS.out HB4.out) (fun b hb => Nat.lt_of_lt_of_le (HSS.out b hb) HB4.out.size)).mono ?_
  rintro e w5 ⟨⟨A', n', c', L', caps', rfl, hln, hra, hel, hok⟩, hb⟩
  have HB5 := Lib.hid (HB4.out.trans (hb.mono HB4.out.size))
  have hs5 := Nat.le_trans hs4 hb.size
  have HX5 := Lib.hid (HX4.out.below hb HX4.out.lt)
  have HA5 := Lib.hid (HA4.out.below hb HA4.out.lt)
  have HQ5 := Lib.hid (HQ4.out.below hb HQ4.out.lt)
  have hp4 := HQ4.out.lt
  have hb45 := hb.size
  clear hb HCO
  have hbc : Below w5.heap.size w5 (w5.alloc (.cells #[.slice A' n' c', .int .i64 0, .int .i64 caps'] 28)) := (Below.refl _ _).alloc (Nat.le_refl _) _
  have HB6 := Lib.hid (HB5.out.trans (hbc.mono HB5.out.size))
  have hs6 := Nat.le_trans hs5 hbc.size
  have HX6 := Lib.hid (HX5.out.below hbc HX5.out.lt)
  have HA6 := Lib.hid (HA5.out.below hbc HA5.out.lt)
  have HQ6 := Lib.hid (HQ5.out.below hbc HQ5.out.lt)
  have hc5 : w5.heap.size < (w5.alloc (.cells #[.slice A' n' c', .int .i64 0, .int .i64 caps'] 28)).heap.size := by simp
  obtain ⟨hI, hcp, hl2⟩ := hok HC.out
  rw [HC.out]
  have hk6 := kept3p (w5.alloc (.cells #[.slice A' n' c', .int .i64 0, .int .i64 caps'] 28)) p0 (.slice A' n' c') (.int .i64 0) (.int .i64 caps')
  have HB7 := Lib.hid (Below.kept HB6.out hk6 (by intro b hb; simp at hb; omega) HB6.out.size)
  have hne : ∀ k, Fr w4.heap.size [] w5 k → k < w5.heap.size ∧ ((((w5.alloc (.cells #[.slice A' n' c', .int .i64 0, .int .i64 caps'] 28)).setCell ⟨p0, 0, none⟩ (.slice A' n' c')).setCell ⟨p0, 1, none⟩ (.int .i64 0)).setCell ⟨p0, 2, none⟩ (.int .i64 caps')).heap[k]? = w5.heap[k]? := fun k hk => by
    obtain ⟨k1, k2, -⟩ := hk
    refine ⟨k2, ?_⟩
    rw [hk6.block k (by omega) (by simp; omega)]
    exact hbc.block k k2
  have h67 : w5.heap.size ≤ ((((w5.alloc (.cells #[.slice A' n' c', .int .i64 0, .int .i64 caps'] 28)).setCell ⟨p0, 0, none⟩ (.slice A' n' c')).setCell ⟨p0, 1, none⟩ (.int .i64 0)).setCell ⟨p0, 2, none⟩ (.int .i64 caps')).heap.size := Nat.le_trans hbc.size hk6.size
  have HR7 := Lib.hid (show ReadsP ((((w5.alloc (.cells #[.slice A' n' c', .int .i64 0, .int .i64 caps'] 28)).setCell ⟨p0, 0, none⟩ (.slice A' n' c')).setCell ⟨p0, 1, none⟩ (.int .i64 0)).setCell ⟨p0, 2, none⟩ (.int .i64 caps')) ((((w5.alloc (.cells #[.slice A' n' c', .int .i64 0, .int .i64 caps'] 28)).setCell ⟨p0, 0, none⟩ (.slice A' n' c')).setCell ⟨p0, 1, none⟩ (.int .i64 0)).setCell ⟨p0, 2, none⟩ (.int .i64 caps')).heap.size A' n' c' L' from ⟨(hra.go fun k hk => (hne k hk).2).reads (fun b hb => Nat.lt_of_lt_of_le (hne b hb).1 h67), fun u hu => ⟨((hel u hu).go fun k hk => (hne k hk).2).reads (fun b hb => Nat.lt_of_lt_of_le (hne b hb).1 h67), (hel u hu).2.2.2.1⟩⟩)
  have HX7 := Lib.hid (HX6.out.kept hk6 (by simp; omega))
  have HA7 := Lib.hid (HA6.out.kept hk6 (by simp; omega))
  have HQ7 := Lib.hid (((HQ6.out.set_ 0 (.slice A' n' c')).set_ 1 (.int .i64 0)).set_ 2 (.int .i64 caps'))
  have hs7 := Nat.le_trans hs6 hk6.size
  have HIP := Lib.hid (show (⟨insL L', 0, caps'⟩ : Prg) = ⟨progL (simpleS (Ta.mk k r ra rc ast l sa sc mn mx z ix nm).tr), 0, 2 + 2 * greatest (Ta.mk k r ra rc ast l sa sc mn mx z ix nm).tr⟩ from by rw [hI, hcp])
  have HLN := Lib.hid hl2
  have HAL := Lib.hid (show allB (simpleS (Ta.mk k r ra rc ast l sa sc mn mx z ix nm).tr) = true from by
    have he : errV (Ta.mk k r ra rc ast l sa sc mn mx z ix nm).tr = 0 := by
      have hx := HC.out
      unfold cmpE at hx
      by_cases hy : errV (Ta.mk k r ra rc ast l sa sc mn mx z ix nm).tr ≠ 0
      · rw [if_pos hy] at hx; exact hx
      · simpa using hy
    exact (simple_good _ (sound_all (errV_zero he).2).1).1)
  have a0 : (w5.alloc (.cells #[.slice A' n' c', .int .i64 0, .int .i64 caps'] 28)).cell? ⟨w.heap.size + 1, 0, none⟩ = some (.slice A n c) := HA6.out.cell 0
  have a1 : (w5.alloc (.cells #[.slice A' n' c', .int .i64 0, .int .i64 caps'] 28)).cell? ⟨w.heap.size + 1, 1, none⟩ = some (.int .i64 start) := HA6.out.cell 1
  have a2 : (w5.alloc (.cells #[.slice A' n' c', .int .i64 0, .int .i64 caps'] 28)).cell? ⟨w.heap.size + 1, 2, none⟩ = some (.int .i64 caps) := HA6.out.cell 2
  have a3 : (w5.alloc (.cells #[.slice A' n' c', .int .i64 0, .int .i64 caps'] 28)).cell? ⟨w.heap.size + 1, 3, none⟩ = some (.slice At nt ct) := HA6.out.cell 3
  have a4 : (w5.alloc (.cells #[.slice A' n' c', .int .i64 0, .int .i64 caps'] 28)).cell? ⟨w.heap.size + 1, 4, none⟩ = some (.int .i64 at_) := HA6.out.cell 4
  have a5 : (w5.alloc (.cells #[.slice A' n' c', .int .i64 0, .int .i64 caps'] 28)).cell? ⟨w.heap.size + 1, 5, none⟩ = some (.bool anch) := HA6.out.cell 5
  have q0 : (w5.alloc (.cells #[.slice A' n' c', .int .i64 0, .int .i64 caps'] 28)).cell? ⟨p0, 0, none⟩ = some (.slice A n c) := HQ6.out.cell 0
  have q1 : (w5.alloc (.cells #[.slice A' n' c', .int .i64 0, .int .i64 caps'] 28)).cell? ⟨p0, 1, none⟩ = some (.int .i64 start) := HQ6.out.cell 1
  have q2 : (w5.alloc (.cells #[.slice A' n' c', .int .i64 0, .int .i64 caps'] 28)).cell? ⟨p0, 2, none⟩ = some (.int .i64 caps) := HQ6.out.cell 2
  have hpa : ¬ (w.heap.size + 1 = p0) := by omega
  have hpb : ¬ (p0 = w.heap.size + 1) := by omega
  have hpc : ¬ (p0 = w5.heap.size) := by omega
  have hpd : ¬ (w5.heap.size = p0) := by omega
  have fq0 := HQ6.out.frozen 0
  have fq1 := HQ6.out.frozen 1
  have fq2 := HQ6.out.frozen 2
  have fq3 := HQ6.out.lt
  clear hI hcp hl2 hok hra hel hne hk6 h67 hbc hln
  simp only []
  go_wp2_with fail
  generalize ((((w5.alloc (.cells #[.slice A' n' c', .int .i64 0, .int .i64 caps'] 28)).setCell ⟨p0, 0, none⟩ (.slice A' n' c')).setCell ⟨p0, 1, none⟩ (.int .i64 0)).setCell ⟨p0, 2, none⟩ (.int .i64 caps')) = w7 at *
  refine (run_any A' At n' c' nt ct L' t 0 caps' at_ false w7 HR7.out ((HTW.out.below HB7.out).more HB7.out.size)).mono ?_
  rintro e w8 hrp
  obtain ⟨⟨er1, fo1, st1⟩, hr1⟩ : ∃ r, r = runR ⟨insL L', 0, caps'⟩ t at_ false := ⟨_, rfl⟩
  rw [← hr1] at hrp
  obtain ⟨cv, rfl, ho, hb⟩ := hrp
  obtain ⟨X1, c1, rfl⟩ := own_shape ho
  have HB8 := Lib.hid (HB7.out.trans (hb.mono HB7.out.size))
  have hs8 := Nat.le_trans hs7 hb.size
  have HA8 := Lib.hid (HA7.out.below hb HA7.out.lt)
  have HQ8 := Lib.hid (HQ7.out.below hb HQ7.out.lt)
  have HR8 := Lib.hid ((HR7.out.below hb).more hb.size)
  obtain ⟨b1, hb1⟩ : ∃ b : Bool, b = fo1.isSome := ⟨_, rfl⟩
  obtain ⟨wh1, hwh1⟩ : ∃ z : Int, z = fo1.elim 0 (·.2) := ⟨_, rfl⟩
  obtain ⟨l1, hl1⟩ : ∃ l : List Int, l = capsOf (er1, fo1, st1) := ⟨_, rfl⟩
  simp only []
  rw [← hl1] at ho ⊢
  rw [← hb1, ← hwh1]
  have Hhr1 := Lib.hid hr1
  have Hb1 := Lib.hid hb1
  have Hwh1 := Lib.hid hwh1
  have Hl1 := Lib.hid hl1
  clear hb1 hwh1 hl1 hr1
  have HO8 := Lib.hid (Reads.of_own ho)
  clear ho hb a0 a1 a2 a3 a4 a5
  have hbf : Below w8.heap.size w8 (w8.alloc (.cells #[.bool b1, .slice X1 l1.length c1, .int .i64 wh1, .int .i64 (st1 : Int)] 38)) := (Below.refl _ _).alloc (Nat.le_refl _) _
  have HB9 := Lib.hid (HB8.out.trans (hbf.mono HB8.out.size))
  have hs9 := Nat.le_trans hs8 hbf.size
  have HA9 := Lib.hid (HA8.out.below hbf HA8.out.lt)
  have HQ9 := Lib.hid (HQ8.out.below hbf HQ8.out.lt)
  have HR9 := Lib.hid ((HR8.out.below hbf).more hbf.size)
  have HO9 := Lib.hid ((HO8.out.below hbf).more hbf.size)
  have HF9 := Lib.hid (Blk.new w8 38 [.bool b1, .slice X1 l1.length c1, .int .i64 wh1, .int .i64 (st1 : Int)])
  clear hbf
  by_cases he : er1 = 0
  case neg =>
    have hne2 : (er1 == 0) = false := by simpa using he
    go_wp2_with fail
    go_ret
    exact ⟨rfl, HB9.out⟩
  subst he
  have HTD := Lib.hid (told (p := ⟨insL L', 0, caps'⟩) (t := t) (a := at_) (by rw [← Hhr1.out]))
  have q0 : (w8.alloc (.cells #[.bool b1, .slice X1 l1.length c1, .int .i64 wh1, .int .i64 (st1 : Int)] 38)).cell? ⟨p0, 0, none⟩ = some (.slice A' n' c') := HQ9.out.cell 0
  have q1 : (w8.alloc (.cells #[.bool b1, .slice X1 l1.length c1, .int .i64 wh1, .int .i64 (st1 : Int)] 38)).cell? ⟨p0, 1, none⟩ = some (.int .i64 0) := HQ9.out.cell 1
  have q2 : (w8.alloc (.cells #[.bool b1, .slice X1 l1.length c1, .int .i64 wh1, .int .i64 (st1 : Int)] 38)).cell? ⟨p0, 2, none⟩ = some (.int .i64 caps') := HQ9.out.cell 2
  have a0 : (w8.alloc (.cells #[.bool b1, .slice X1 l1.length c1, .int .i64 wh1, .int .i64 (st1 : Int)] 38)).cell? ⟨w.heap.size + 1, 0, none⟩ = some (.slice A n c) := HA9.out.cell 0
  have a1 : (w8.alloc (.cells #[.bool b1, .slice X1 l1.length c1, .int .i64 wh1, .int .i64 (st1 : Int)] 38)).cell? ⟨w.heap.size + 1, 1, none⟩ = some (.int .i64 start) := HA9.out.cell 1
  have a2 : (w8.alloc (.cells #[.bool b1, .slice X1 l1.length c1, .int .i64 wh1, .int .i64 (st1 : Int)] 38)).cell? ⟨w.heap.size + 1, 2, none⟩ = some (.int .i64 caps) := HA9.out.cell 2
  have a3 : (w8.alloc (.cells #[.bool b1, .slice X1 l1.length c1, .int .i64 wh1, .int .i64 (st1 : Int)] 38)).cell? ⟨w.heap.size + 1, 3, none⟩ = some (.slice At nt ct) := HA9.out.cell 3
  have a4 : (w8.alloc (.cells #[.bool b1, .slice X1 l1.length c1, .int .i64 wh1, .int .i64 (st1 : Int)] 38)).cell? ⟨w.heap.size + 1, 4, none⟩ = some (.int .i64 at_) := HA9.out.cell 4
  have a5 : (w8.alloc (.cells #[.bool b1, .slice X1 l1.length c1, .int .i64 wh1, .int .i64 (st1 : Int)] 38)).cell? ⟨w.heap.size + 1, 5, none⟩ = some (.bool anch) := HA9.out.cell 5
  go_wp2_with fail
  clear q0 q1 q2 a0 a1 a2 a3 a4 a5
  generalize (w8.alloc (.cells #[.bool b1, .slice X1 l1.length c1, .int .i64 wh1, .int .i64 (st1 : Int)] 38)) = w9 at *
  generalize hfb : w8.heap.size = fb at *
  refine (run_any A' At n' c' nt ct L' t 0 caps' at_ true w9 HR9.out ((HTW.out.below HB9.out).more HB9.out.size)).mono ?_
  rintro e w10 hrp
  obtain ⟨⟨er2, fo2, st2⟩, hr2⟩ : ∃ r, r = runR ⟨insL L', 0, caps'⟩ t at_ true := ⟨_, rfl⟩
  rw [← hr2] at hrp
  obtain ⟨cv, rfl, ho, hb⟩ := hrp
  obtain ⟨X2, c2, rfl⟩ := own_shape ho
  have HB10 := Lib.hid (HB9.out.trans (hb.mono HB9.out.size))
  have hs10 := Nat.le_trans hs9 hb.size
  have HA10 := Lib.hid (HA9.out.below hb HA9.out.lt)
  have HQ10 := Lib.hid (HQ9.out.below hb HQ9.out.lt)
  have HR10 := Lib.hid ((HR9.out.below hb).more hb.size)
  have HO10 := Lib.hid ((HO9.out.below hb).more hb.size)
  have HF10 := Lib.hid (HF9.out.below hb HF9.out.lt)
  obtain ⟨b2, hb2⟩ : ∃ b : Bool, b = fo2.isSome := ⟨_, rfl⟩
  obtain ⟨wh2, hwh2⟩ : ∃ z : Int, z = fo2.elim 0 (·.2) := ⟨_, rfl⟩
  obtain ⟨l2, hl2⟩ : ∃ l : List Int, l = capsOf (er2, fo2, st2) := ⟨_, rfl⟩
  simp only []
  rw [← hl2] at ho ⊢
  rw [← hb2, ← hwh2]
  have Hhr2 := Lib.hid hr2
  have Hb2 := Lib.hid hb2
  have Hwh2 := Lib.hid hwh2
  have Hl2 := Lib.hid hl2
  clear hb2 hwh2 hl2 hr2
  clear ho hb
  have he2 : er2 = 0 := by have hx := HTD.out.same; rw [← Hhr2.out] at hx; exact hx
  subst he2
  have hbg : Below w10.heap.size w10 (w10.alloc (.cells #[.bool b2, .slice X2 l2.length c2, .int .i64 wh2, .int .i64 (st2 : Int)] 38)) := (Below.refl _ _).alloc (Nat.le_refl _) _
  have HB11 := Lib.hid (HB10.out.trans (hbg.mono HB10.out.size))
  have hs11 := Nat.le_trans hs10 hbg.size
  have HA11 := Lib.hid (HA10.out.below hbg HA10.out.lt)
  have HQ11 := Lib.hid (HQ10.out.below hbg HQ10.out.lt)
  have HR11 := Lib.hid ((HR10.out.below hbg).more hbg.size)
  have HO11 := Lib.hid ((HO10.out.below hbg).more hbg.size)
  have HF11 := Lib.hid (HF10.out.below hbg HF10.out.lt)
  have HG11 := Lib.hid (Blk.new w10 38 [.bool b2, .slice X2 l2.length c2, .int .i64 wh2, .int .i64 (st2 : Int)])
  clear hbg
  have k0 := HTD.out.s0
  have k1 := HTD.out.s1
  have k2 := HTD.out.s2
  have k3 := HTD.out.s3
  have k4 := HTD.out.room
  have k5 := HTD.out.a0
  have k6 := HTD.out.a1
  have k7 := HTD.out.len
  have k8 : b2 = true → b1 = true := fun hx => by
    have hy := HTD.out.both (by rw [← Hhr2.out]; rw [Hb2.out] at hx; exact hx)
    rw [← Hhr1.out] at hy
    rw [Hb1.out]; exact hy
  rw [← Hhr1.out] at k0 k2 k3
  rw [← Hhr2.out] at k1 k3
  have hil : (insL L').length = n' := by rw [insL, List.length_map]; exact HR11.out.len
  simp only [HTL.out, hil] at k0 k1 k2 k3 k4 k6 k7
  obtain ⟨M, hM⟩ : ∃ M : Nat, M = n' * (nt - at_.toNat + 1) := ⟨_, rfl⟩
  rw [← hM] at k2 k4
  have hpl : ((nt - at_.toNat + 1 : Nat) : Int) = (nt : Int) - at_ + 1 := by omega
  have hMi : (n' : Int) * ((nt : Int) - at_ + 1) = (M : Int) := by rw [hM, Int.natCast_mul, hpl]
  have hw1 : IntKind.i64.wrap ((nt : Int) - at_) = (nt : Int) - at_ := wrI12 (by omega)
  have hw2 : IntKind.i64.wrap ((nt : Int) - at_ + 1) = (nt : Int) - at_ + 1 := wrI12 (by omega)
  have hw3 : IntKind.i64.wrap ((n' : Int) * ((nt : Int) - at_ + 1)) = (M : Int) := by rw [hMi]; exact wrI12 (by omega)
  have hc1 : ¬ ((st1 : Int) < 1) := by omega
  have hc2 : ¬ ((st2 : Int) < 1) := by omega
  have hc3 : ¬ ((M : Int) < (st1 : Int)) := by omega
  have hc4 : ¬ ((st1 : Int) < (st2 : Int)) := by omega
  have q0 : (w10.alloc (.cells #[.bool b2, .slice X2 l2.length c2, .int .i64 wh2, .int .i64 (st2 : Int)] 38)).cell? ⟨p0, 0, none⟩ = some (.slice A' n' c') := HQ11.out.cell 0
  have q1 : (w10.alloc (.cells #[.bool b2, .slice X2 l2.length c2, .int .i64 wh2, .int .i64 (st2 : Int)] 38)).cell? ⟨p0, 1, none⟩ = some (.int .i64 0) := HQ11.out.cell 1
  have q2 : (w10.alloc (.cells #[.bool b2, .slice X2 l2.length c2, .int .i64 wh2, .int .i64 (st2 : Int)] 38)).cell? ⟨p0, 2, none⟩ = some (.int .i64 caps') := HQ11.out.cell 2
  have a0 : (w10.alloc (.cells #[.bool b2, .slice X2 l2.length c2, .int .i64 wh2, .int .i64 (st2 : Int)] 38)).cell? ⟨w.heap.size + 1, 0, none⟩ = some (.slice A n c) := HA11.out.cell 0
  have a1 : (w10.alloc (.cells #[.bool b2, .slice X2 l2.length c2, .int .i64 wh2, .int .i64 (st2 : Int)] 38)).cell? ⟨w.heap.size + 1, 1, none⟩ = some (.int .i64 start) := HA11.out.cell 1
  have a2 : (w10.alloc (.cells #[.bool b2, .slice X2 l2.length c2, .int .i64 wh2, .int .i64 (st2 : Int)] 38)).cell? ⟨w.heap.size + 1, 2, none⟩ = some (.int .i64 caps) := HA11.out.cell 2
  have a3 : (w10.alloc (.cells #[.bool b2, .slice X2 l2.length c2, .int .i64 wh2, .int .i64 (st2 : Int)] 38)).cell? ⟨w.heap.size + 1, 3, none⟩ = some (.slice At nt ct) := HA11.out.cell 3
  have a4 : (w10.alloc (.cells #[.bool b2, .slice X2 l2.length c2, .int .i64 wh2, .int .i64 (st2 : Int)] 38)).cell? ⟨w.heap.size + 1, 4, none⟩ = some (.int .i64 at_) := HA11.out.cell 4
  have a5 : (w10.alloc (.cells #[.bool b2, .slice X2 l2.length c2, .int .i64 wh2, .int .i64 (st2 : Int)] 38)).cell? ⟨w.heap.size + 1, 5, none⟩ = some (.bool anch) := HA11.out.cell 5
  have u0 : (w10.alloc (.cells #[.bool b2, .slice X2 l2.length c2, .int .i64 wh2, .int .i64 (st2 : Int)] 38)).cell? ⟨fb, 0, none⟩ = some (.bool b1) := HF11.out.cell 0
  have u1 : (w10.alloc (.cells #[.bool b2, .slice X2 l2.length c2, .int .i64 wh2, .int .i64 (st2 : Int)] 38)).cell? ⟨fb, 1, none⟩ = some (.slice X1 l1.length c1) := HF11.out.cell 1
  have u2 : (w10.alloc (.cells #[.bool b2, .slice X2 l2.length c2, .int .i64 wh2, .int .i64 (st2 : Int)] 38)).cell? ⟨fb, 2, none⟩ = some (.int .i64 wh1) := HF11.out.cell 2
  have u3 : (w10.alloc (.cells #[.bool b2, .slice X2 l2.length c2, .int .i64 wh2, .int .i64 (st2 : Int)] 38)).cell? ⟨fb, 3, none⟩ = some (.int .i64 (st1 : Int)) := HF11.out.cell 3
  have g0 : (w10.alloc (.cells #[.bool b2, .slice X2 l2.length c2, .int .i64 wh2, .int .i64 (st2 : Int)] 38)).cell? ⟨w10.heap.size, 0, none⟩ = some (.bool b2) := HG11.out.cell 0
  have g1 : (w10.alloc (.cells #[.bool b2, .slice X2 l2.length c2, .int .i64 wh2, .int .i64 (st2 : Int)] 38)).cell? ⟨w10.heap.size, 1, none⟩ = some (.slice X2 l2.length c2) := HG11.out.cell 1
  have g2 : (w10.alloc (.cells #[.bool b2, .slice X2 l2.length c2, .int .i64 wh2, .int .i64 (st2 : Int)] 38)).cell? ⟨w10.heap.size, 2, none⟩ = some (.int .i64 wh2) := HG11.out.cell 2
  have g3 : (w10.alloc (.cells #[.bool b2, .slice X2 l2.length c2, .int .i64 wh2, .int .i64 (st2 : Int)] 38)).cell? ⟨w10.heap.size, 3, none⟩ = some (.int .i64 (st2 : Int)) := HG11.out.cell 3
  have KK := Lib.hid (show at_.toNat ≤ nt ∧ 0 ≤ at_ ∧ nt ≤ 4194304 from by omega)
  clear k0 k1 k2 k3 k4 k5 k6 k7 hM hpl hMi hil
  cases b1 with
  | false =>
    have hb2f : b2 = false := by cases b2 with
      | false => rfl
      | true => exact absurd (k8 rfl) (by simp)
    clear k8
    subst hb2f
    go_wp2_with fail
    generalize (w10.alloc (.cells #[.bool false, .slice X2 l2.length c2, .int .i64 wh2, .int .i64 (st2 : Int)] 38)) = w11 at *
    clear q0 q1 q2 a0 a1 a2 a3 a4 a5 u0 u1 u2 u3 g0 g1 g2 g3 hw1 hw2 hw3 hc1 hc2 hc3 hc4
    have HL := Lib.hid (show L12 w [.slice A n c, .int .i64 start, .int .i64 caps, .slice At nt ct, .int .i64 at_, .bool anch] [.slice A' n' c', .int .i64 0, .int .i64 caps'] [.bool false, .slice X1 l1.length c1, .int .i64 wh1, .int .i64 (st1 : Int)] p0 fb A' n' c' L' At nt ct t X1 c1 l1 w11 from ⟨HB11.out, HA11.out, HQ11.out, HF11.out, HR11.out, ((HTW.out.below HB11.out).more HB11.out.size), HO11.out⟩)
    have HNO := Lib.hid (show ∀ i : Nat, at_.toNat ≤ i → i ≤ nt → oneR ⟨insL L', 0, caps'⟩ t i = none from by
      rcases HTD.out.tells with ⟨-, e2⟩ | ⟨j, e1, e2, -⟩
      · intro i h1 h2; exact e2 i h1 (by rw [HTL.out]; exact h2)
      · rw [← Hhr1.out] at e1
        have hx := Hb1.out
        rw [show fo1 = _ from e1, e2] at hx
        cases hx)
    go_loopw [17] (fun iv W => ∃ i : Nat, at_.toNat ≤ i ∧ i ≤ nt + 1 ∧ iv = .int .i64 (i : Int) ∧ L12 w [.slice A n c, .int .i64 start, .int .i64 caps, .slice At nt ct, .int .i64 at_, .bool anch] [.slice A' n' c', .int .i64 0, .int .i64 caps'] [.bool false, .slice X1 l1.length c1, .int .i64 wh1, .int .i64 (st1 : Int)] p0 fb A' n' c' L' At nt ct t X1 c1 l1 W) (fun iv _ => nt + 1 - (intOf iv).toNat)
    case atStart => exact ⟨at_.toNat, Nat.le_refl _, by have := KK.out; omega, by rw [Int.toNat_of_nonneg KK.out.2.1], HL.out⟩
    case round =>
      obtain ⟨i, hi0, hi1, rfl, hl⟩ := hrel
      have HLI := Lib.hid hl
      have HI0 := Lib.hid hi0
      have hkk := KK.out.2.2
      have q0 : wr.cell? ⟨p0, 0, none⟩ = some (.slice A' n' c') := HLI.out.pb.cell 0
      have q1 : wr.cell? ⟨p0, 1, none⟩ = some (.int .i64 0) := HLI.out.pb.cell 1
      have q2 : wr.cell? ⟨p0, 2, none⟩ = some (.int .i64 caps') := HLI.out.pb.cell 2
      have a0 : wr.cell? ⟨w.heap.size + 1, 0, none⟩ = some (.slice A n c) := HLI.out.ask.cell 0
      have a1 : wr.cell? ⟨w.heap.size + 1, 1, none⟩ = some (.int .i64 start) := HLI.out.ask.cell 1
      have a2 : wr.cell? ⟨w.heap.size + 1, 2, none⟩ = some (.int .i64 caps) := HLI.out.ask.cell 2
      have a3 : wr.cell? ⟨w.heap.size + 1, 3, none⟩ = some (.slice At nt ct) := HLI.out.ask.cell 3
      have a4 : wr.cell? ⟨w.heap.size + 1, 4, none⟩ = some (.int .i64 at_) := HLI.out.ask.cell 4
      have a5 : wr.cell? ⟨w.heap.size + 1, 5, none⟩ = some (.bool anch) := HLI.out.ask.cell 5
      have u0 : wr.cell? ⟨fb, 0, none⟩ = some (.bool false) := HLI.out.fb.cell 0
      have u1 : wr.cell? ⟨fb, 1, none⟩ = some (.slice X1 l1.length c1) := HLI.out.fb.cell 1
      have u2 : wr.cell? ⟨fb, 2, none⟩ = some (.int .i64 wh1) := HLI.out.fb.cell 2
      have u3 : wr.cell? ⟨fb, 3, none⟩ = some (.int .i64 (st1 : Int)) := HLI.out.fb.cell 3
      clear hl hi0
      by_cases hlt : i ≤ nt
      · have hlt2 : (i : Int) ≤ (nt : Int) := by omega
        go_wp2_with fail
        refine (run_any A' At n' c' nt ct L' t 0 caps' (i : Int) true wr HLI.out.rp HLI.out.rt).mono ?_
        rintro e w12 hrp
        rw [HTD.out.one i HI0.out (by rw [HTL.out]; exact hlt), HNO.out i HI0.out hlt] at hrp
        obtain ⟨cv, rfl, ho, hb⟩ := hrp
        generalize (oneAt ⟨insL L', 0, caps'⟩ t i).steps = sx at *
        have HL12 := Lib.hid (HLI.out.later hb)
        obtain ⟨X3, c3, rfl⟩ := own_shape ho
        clear ho hb q0 q1 q2 a0 a1 a2 a3 a4 a5 u0 u1 u2 u3
        generalize (capsOf ((0 : Int), (none : Option (List Int × Int)), sx)).length = k3 at *
        have HL13 := Lib.hid (HL12.out.later (W' := (w12.alloc (.cells #[.bool false, .slice X3 k3 c3, .int .i64 0, .int .i64 (sx : Int)] 38))) ((Below.refl _ _).alloc (Nat.le_refl _) _))
        have HXX := Lib.hid (Blk.new w12 38 [.bool false, .slice X3 k3 c3, .int .i64 0, .int .i64 (sx : Int)])
        simp only [Option.isSome_none, Option.elim_none]
        have u0 : (w12.alloc (.cells #[.bool false, .slice X3 k3 c3, .int .i64 0, .int .i64 (sx : Int)] 38)).cell? ⟨fb, 0, none⟩ = some (.bool false) := HL13.out.fb.cell 0
        have u1 : (w12.alloc (.cells #[.bool false, .slice X3 k3 c3, .int .i64 0, .int .i64 (sx : Int)] 38)).cell? ⟨fb, 1, none⟩ = some (.slice X1 l1.length c1) := HL13.out.fb.cell 1
        have u2 : (w12.alloc (.cells #[.bool false, .slice X3 k3 c3, .int .i64 0, .int .i64 (sx : Int)] 38)).cell? ⟨fb, 2, none⟩ = some (.int .i64 wh1) := HL13.out.fb.cell 2
        have u3 : (w12.alloc (.cells #[.bool false, .slice X3 k3 c3, .int .i64 0, .int .i64 (sx : Int)] 38)).cell? ⟨fb, 3, none⟩ = some (.int .i64 (st1 : Int)) := HL13.out.fb.cell 3
        have x0 : (w12.alloc (.cells #[.bool false, .slice X3 k3 c3, .int .i64 0, .int .i64 (sx : Int)] 38)).cell? ⟨w12.heap.size, 0, none⟩ = some (.bool false) := HXX.out.cell 0
        have hwi : IntKind.i64.wrap ((i : Int) + 1) = (i : Int) + 1 := wrI12 (by omega)
        go_wp2_with fail
        go_roundw
        case rel => exact ⟨i + 1, by have := HI0.out; omega, by omega, by go_num, HL13.out⟩
        case measure => simp [intOf]; omega
      · obtain rfl : i = nt + 1 := by omega
        have hgt : ¬ (((nt + 1 : Nat) : Int) ≤ (nt : Int)) := by omega
        go_wp2_with fail
        go_ret
        exact ⟨rfl, HLI.out.below⟩
  | true =>
    clear k8
    cases b2 with
    | false =>
      go_wp2_with fail
      generalize (w10.alloc (.cells #[.bool false, .slice X2 l2.length c2, .int .i64 wh2, .int .i64 (st2 : Int)] 38)) = w11 at *
      clear q0 q1 q2 a0 a1 a2 a3 a4 a5 u0 u1 u2 u3 g0 g1 g2 g3 hw1 hw2 hw3 hc1 hc2 hc3 hc4
      obtain ⟨j, e1, e2, hj0, hj1, hjn⟩ : ∃ j : Nat, fo1 = oneR ⟨insL L', 0, caps'⟩ t j ∧ (oneR ⟨insL L', 0, caps'⟩ t j).isSome = true ∧ at_.toNat ≤ j ∧ j ≤ nt ∧ ∀ i : Nat, at_.toNat ≤ i → i < j → oneR ⟨insL L', 0, caps'⟩ t i = none := by
        rcases HTD.out.tells with ⟨e1, -⟩ | ⟨j, e1, e2, h1, h2, h3⟩
        · rw [← Hhr1.out] at e1
          have hx := Hb1.out
          rw [show fo1 = none from e1] at hx
          cases hx
        · rw [← Hhr1.out] at e1
          exact ⟨j, e1, e2, h1, by rw [← HTL.out]; exact h2, h3⟩
      obtain ⟨rr, hrr⟩ := Option.isSome_iff_exists.1 e2
      have hcap : rr.1[0]? = some (j : Int) := by
        have hck := HTD.out.chk
        rw [HIP.out] at hck
        refine cap0_one (s0 := simpleS (Ta.mk k r ra rc ast l sa sc mn mx z ix nm).tr) (c := 2 + 2 * greatest (Ta.mk k r ra rc ast l sa sc mn mx z ix nm).tr) HAL.out hck (by rw [HTL.out]; exact hj1) ?_
        rw [← HIP.out]; exact hrr
      have hl1 : l1 = rr.1 := by rw [Hl1.out, e1, hrr]; rfl
      have hwh : wh1 = rr.2 := by rw [Hwh1.out, e1, hrr]; rfl
      have hlp : 0 < l1.length := by rw [hl1]; exact (List.getElem?_eq_some_iff.1 hcap).1
      obtain ⟨bx, ox, rfl, -, -⟩ := HO11.out.at_ hlp
      have hj2 : (l1.map (Value.int .i64))[0]? = some (.int .i64 (j : Int)) := by rw [hl1, List.getElem?_map, hcap]; rfl
      have HRR := Lib.hid hrr
      have HJ2 := Lib.hid hj2
      have HJN := Lib.hid hjn
      have HL1 := Lib.hid hl1
      have HWH := Lib.hid hwh
      have HJJ := Lib.hid (show at_.toNat ≤ j ∧ j ≤ nt from ⟨hj0, hj1⟩)
      have hlp1 : (0 : Int) < (l1.length : Int) := by omega
      clear e1 e2 hj0 hj1 hjn hrr hcap hl1 hwh hj2
      have HL := Lib.hid (show L12 w [.slice A n c, .int .i64 start, .int .i64 caps, .slice At nt ct, .int .i64 at_, .bool anch] [.slice A' n' c', .int .i64 0, .int .i64 caps'] [.bool true, .slice (some ⟨bx, ox, none⟩) l1.length c1, .int .i64 wh1, .int .i64 (st1 : Int)] p0 fb A' n' c' L' At nt ct t (some ⟨bx, ox, none⟩) c1 l1 w11 from ⟨HB11.out, HA11.out, HQ11.out, HF11.out, HR11.out, ((HTW.out.below HB11.out).more HB11.out.size), HO11.out⟩)
      go_loopw [17] (fun iv W => ∃ i : Nat, at_.toNat ≤ i ∧ i ≤ j ∧ iv = .int .i64 (i : Int) ∧ L12 w [.slice A n c, .int .i64 start, .int .i64 caps, .slice At nt ct, .int .i64 at_, .bool anch] [.slice A' n' c', .int .i64 0, .int .i64 caps'] [.bool true, .slice (some ⟨bx, ox, none⟩) l1.length c1, .int .i64 wh1, .int .i64 (st1 : Int)] p0 fb A' n' c' L' At nt ct t (some ⟨bx, ox, none⟩) c1 l1 W) (fun iv _ => nt + 1 - (intOf iv).toNat)
      case atStart => exact ⟨at_.toNat, Nat.le_refl _, HJJ.out.1, by rw [Int.toNat_of_nonneg KK.out.2.1], HL.out⟩
      case round =>
        obtain ⟨i, hi0, hij, rfl, hl⟩ := hrel
        have HLI := Lib.hid hl
        have HI0 := Lib.hid hi0
        have hkk := KK.out.2.2
        have hjn := HJJ.out.2
        have q0 : wr.cell? ⟨p0, 0, none⟩ = some (.slice A' n' c') := HLI.out.pb.cell 0
        have q1 : wr.cell? ⟨p0, 1, none⟩ = some (.int .i64 0) := HLI.out.pb.cell 1
        have q2 : wr.cell? ⟨p0, 2, none⟩ = some (.int .i64 caps') := HLI.out.pb.cell 2
        have a0 : wr.cell? ⟨w.heap.size + 1, 0, none⟩ = some (.slice A n c) := HLI.out.ask.cell 0
        have a1 : wr.cell? ⟨w.heap.size + 1, 1, none⟩ = some (.int .i64 start) := HLI.out.ask.cell 1
        have a2 : wr.cell? ⟨w.heap.size + 1, 2, none⟩ = some (.int .i64 caps) := HLI.out.ask.cell 2
        have a3 : wr.cell? ⟨w.heap.size + 1, 3, none⟩ = some (.slice At nt ct) := HLI.out.ask.cell 3
        have a4 : wr.cell? ⟨w.heap.size + 1, 4, none⟩ = some (.int .i64 at_) := HLI.out.ask.cell 4
        have a5 : wr.cell? ⟨w.heap.size + 1, 5, none⟩ = some (.bool anch) := HLI.out.ask.cell 5
        have u0 : wr.cell? ⟨fb, 0, none⟩ = some (.bool true) := HLI.out.fb.cell 0
        have u1 : wr.cell? ⟨fb, 1, none⟩ = some (.slice (some ⟨bx, ox, none⟩) l1.length c1) := HLI.out.fb.cell 1
        have u2 : wr.cell? ⟨fb, 2, none⟩ = some (.int .i64 wh1) := HLI.out.fb.cell 2
        have u3 : wr.cell? ⟨fb, 3, none⟩ = some (.int .i64 (st1 : Int)) := HLI.out.fb.cell 3
        clear hl hi0
        have hlt2 : (i : Int) ≤ (nt : Int) := by omega
        go_wp2_with fail
        refine (run_any A' At n' c' nt ct L' t 0 caps' (i : Int) true wr HLI.out.rp HLI.out.rt).mono ?_
        rintro e w12 hrp
        rw [HTD.out.one i HI0.out (by rw [HTL.out]; omega)] at hrp
        by_cases hji : i = j
        · subst hji
          rw [HRR.out] at hrp
          obtain ⟨cv, rfl, ho, hb⟩ := hrp
          generalize (oneAt ⟨insL L', 0, caps'⟩ t i).steps = sx at *
          have HL12 := Lib.hid (HLI.out.later hb)
          obtain ⟨X3, c3, rfl⟩ := own_shape ho
          have hcl : capsOf ((0 : Int), some rr, sx) = l1 := HL1.out.symm
          rw [hcl] at ho ⊢
          have hro := Reads.of_own ho
          clear ho hb q0 q1 q2 a0 a1 a2 a3 a4 a5 u0 u1 u2 u3 hcl
          have hbx : Below w12.heap.size w12 (w12.alloc (.cells #[.bool true, .slice X3 l1.length c3, .int .i64 wh1, .int .i64 (sx : Int)] 38)) := (Below.refl _ _).alloc (Nat.le_refl _) _
          have HL13 := Lib.hid (HL12.out.later (W' := (w12.alloc (.cells #[.bool true, .slice X3 l1.length c3, .int .i64 wh1, .int .i64 (sx : Int)] 38))) hbx)
          have HRO := Lib.hid ((hro.below hbx).more hbx.size)
          have HXX := Lib.hid (Blk.new w12 38 [.bool true, .slice X3 l1.length c3, .int .i64 wh1, .int .i64 (sx : Int)])
          simp only [Option.isSome_some, Option.elim_some]
          rw [← HWH.out]
          have hx0 : (w12.alloc (.cells #[.bool true, .slice X3 l1.length c3, .int .i64 wh1, .int .i64 (sx : Int)] 38)).cell? ⟨bx, ox, none⟩ = some (.int .i64 (i : Int)) := by
            have := HL13.out.own.cellAt HJ2.out
            rwa [Nat.add_zero] at this
          have u0 : (w12.alloc (.cells #[.bool true, .slice X3 l1.length c3, .int .i64 wh1, .int .i64 (sx : Int)] 38)).cell? ⟨fb, 0, none⟩ = some (.bool true) := HL13.out.fb.cell 0
          have u1 : (w12.alloc (.cells #[.bool true, .slice X3 l1.length c3, .int .i64 wh1, .int .i64 (sx : Int)] 38)).cell? ⟨fb, 1, none⟩ = some (.slice (some ⟨bx, ox, none⟩) l1.length c1) := HL13.out.fb.cell 1
          have u2 : (w12.alloc (.cells #[.bool true, .slice X3 l1.length c3, .int .i64 wh1, .int .i64 (sx : Int)] 38)).cell? ⟨fb, 2, none⟩ = some (.int .i64 wh1) := HL13.out.fb.cell 2
          have u3 : (w12.alloc (.cells #[.bool true, .slice X3 l1.length c3, .int .i64 wh1, .int .i64 (sx : Int)] 38)).cell? ⟨fb, 3, none⟩ = some (.int .i64 (st1 : Int)) := HL13.out.fb.cell 3
          have x0 : (w12.alloc (.cells #[.bool true, .slice X3 l1.length c3, .int .i64 wh1, .int .i64 (sx : Int)] 38)).cell? ⟨w12.heap.size, 0, none⟩ = some (.bool true) := HXX.out.cell 0
          have x1 : (w12.alloc (.cells #[.bool true, .slice X3 l1.length c3, .int .i64 wh1, .int .i64 (sx : Int)] 38)).cell? ⟨w12.heap.size, 1, none⟩ = some (.slice X3 l1.length c3) := HXX.out.cell 1
          have x2 : (w12.alloc (.cells #[.bool true, .slice X3 l1.length c3, .int .i64 wh1, .int .i64 (sx : Int)] 38)).cell? ⟨w12.heap.size, 2, none⟩ = some (.int .i64 wh1) := HXX.out.cell 2
          have x3 : (w12.alloc (.cells #[.bool true, .slice X3 l1.length c3, .int .i64 wh1, .int .i64 (sx : Int)] 38)).cell? ⟨w12.heap.size, 3, none⟩ = some (.int .i64 (sx : Int)) := HXX.out.cell 3
          have HSF := Lib.hid (sameFind_any true wh1 (sx : Int) (st1 : Int) l1 X3 (some ⟨bx, ox, none⟩) l1.length c3 c1 (w12.alloc (.cells #[.bool true, .slice X3 l1.length c3, .int .i64 wh1, .int .i64 (sx : Int)] 38)) HRO.out HL13.out.own)
          clear hro hbx
          go_wp2_with fail
          refine HSF.out.mono ?_
          rintro e w14 ⟨rfl, hb⟩
          have HL14 := Lib.hid (HL13.out.later hb)
          clear hb
          simp only []
          go_wp2_with fail
          go_ret
          exact ⟨rfl, HL14.out.below⟩
        · rw [HJN.out i HI0.out (by omega)] at hrp
          obtain ⟨cv, rfl, ho, hb⟩ := hrp
          generalize (oneAt ⟨insL L', 0, caps'⟩ t i).steps = sx at *
          have HL12 := Lib.hid (HLI.out.later hb)
          obtain ⟨X3, c3, rfl⟩ := own_shape ho
          clear ho hb q0 q1 q2 a0 a1 a2 a3 a4 a5 u0 u1 u2 u3
          generalize (capsOf ((0 : Int), (none : Option (List Int × Int)), sx)).length = k3 at *
          have HL13 := Lib.hid (HL12.out.later (W' := (w12.alloc (.cells #[.bool false, .slice X3 k3 c3, .int .i64 0, .int .i64 (sx : Int)] 38))) ((Below.refl _ _).alloc (Nat.le_refl _) _))
          have HXX := Lib.hid (Blk.new w12 38 [.bool false, .slice X3 k3 c3, .int .i64 0, .int .i64 (sx : Int)])
          simp only [Option.isSome_none, Option.elim_none]
          have hx0 : (w12.alloc (.cells #[.bool false, .slice X3 k3 c3, .int .i64 0, .int .i64 (sx : Int)] 38)).cell? ⟨bx, ox, none⟩ = some (.int .i64 (j : Int)) := by
            have := HL13.out.own.cellAt HJ2.out
            rwa [Nat.add_zero] at this
          have u0 : (w12.alloc (.cells #[.bool false, .slice X3 k3 c3, .int .i64 0, .int .i64 (sx : Int)] 38)).cell? ⟨fb, 0, none⟩ = some (.bool true) := HL13.out.fb.cell 0
          have u1 : (w12.alloc (.cells #[.bool false, .slice X3 k3 c3, .int .i64 0, .int .i64 (sx : Int)] 38)).cell? ⟨fb, 1, none⟩ = some (.slice (some ⟨bx, ox, none⟩) l1.length c1) := HL13.out.fb.cell 1
          have u2 : (w12.alloc (.cells #[.bool false, .slice X3 k3 c3, .int .i64 0, .int .i64 (sx : Int)] 38)).cell? ⟨fb, 2, none⟩ = some (.int .i64 wh1) := HL13.out.fb.cell 2
          have u3 : (w12.alloc (.cells #[.bool false, .slice X3 k3 c3, .int .i64 0, .int .i64 (sx : Int)] 38)).cell? ⟨fb, 3, none⟩ = some (.int .i64 (st1 : Int)) := HL13.out.fb.cell 3
          have x0 : (w12.alloc (.cells #[.bool false, .slice X3 k3 c3, .int .i64 0, .int .i64 (sx : Int)] 38)).cell? ⟨w12.heap.size, 0, none⟩ = some (.bool false) := HXX.out.cell 0
          have hnij : ¬ ((i : Int) = (j : Int)) := by omega
          have hnij2 : ((i : Int) == (j : Int)) = false := beq_eq_false_iff_ne.2 hnij
          have hwi : IntKind.i64.wrap ((i : Int) + 1) = (i : Int) + 1 := wrI12 (by omega)
          go_wp2_with fail
          go_roundw
          case rel => exact ⟨i + 1, by have := HI0.out; omega, by omega, by go_num, HL13.out⟩
          case measure => simp [intOf]; omega
    | true =>
      go_wp2_with fail
      generalize (w10.alloc (.cells #[.bool true, .slice X2 l2.length c2, .int .i64 wh2, .int .i64 (st2 : Int)] 38)) = w11 at *
      clear q0 q1 q2 a0 a1 a2 a3 a4 a5 u0 u1 u2 u3 g0 g1 g2 g3 hw1 hw2 hw3 hc1 hc2 hc3 hc4
      obtain ⟨j, e1, e2, hj0, hj1, hjn⟩ : ∃ j : Nat, fo1 = oneR ⟨insL L', 0, caps'⟩ t j ∧ (oneR ⟨insL L', 0, caps'⟩ t j).isSome = true ∧ at_.toNat ≤ j ∧ j ≤ nt ∧ ∀ i : Nat, at_.toNat ≤ i → i < j → oneR ⟨insL L', 0, caps'⟩ t i = none := by
        rcases HTD.out.tells with ⟨e1, -⟩ | ⟨j, e1, e2, h1, h2, h3⟩
        · rw [← Hhr1.out] at e1
          have hx := Hb1.out
          rw [show fo1 = none from e1] at hx
          cases hx
        · rw [← Hhr1.out] at e1
          exact ⟨j, e1, e2, h1, by rw [← HTL.out]; exact h2, h3⟩
      obtain ⟨rr, hrr⟩ := Option.isSome_iff_exists.1 e2
      have hcap : rr.1[0]? = some (j : Int) := by
        have hck := HTD.out.chk
        rw [HIP.out] at hck
        refine cap0_one (s0 := simpleS (Ta.mk k r ra rc ast l sa sc mn mx z ix nm).tr) (c := 2 + 2 * greatest (Ta.mk k r ra rc ast l sa sc mn mx z ix nm).tr) HAL.out hck (by rw [HTL.out]; exact hj1) ?_
        rw [← HIP.out]; exact hrr
      have hl1 : l1 = rr.1 := by rw [Hl1.out, e1, hrr]; rfl
      have hwh : wh1 = rr.2 := by rw [Hwh1.out, e1, hrr]; rfl
      have hlp : 0 < l1.length := by rw [hl1]; exact (List.getElem?_eq_some_iff.1 hcap).1
      obtain ⟨bx, ox, rfl, -, -⟩ := HO11.out.at_ hlp
      have hj2 : (l1.map (Value.int .i64))[0]? = some (.int .i64 (j : Int)) := by rw [hl1, List.getElem?_map, hcap]; rfl
      have HRR := Lib.hid hrr
      have HJ2 := Lib.hid hj2
      have HJN := Lib.hid hjn
      have HL1 := Lib.hid hl1
      have HWH := Lib.hid hwh
      have HJJ := Lib.hid (show at_.toNat ≤ j ∧ j ≤ nt from ⟨hj0, hj1⟩)
      have hlp1 : (0 : Int) < (l1.length : Int) := by omega
      clear e1 e2 hj0 hj1 hjn hrr hcap hl1 hwh hj2
      have HL := Lib.hid (show L12 w [.slice A n c, .int .i64 start, .int .i64 caps, .slice At nt ct, .int .i64 at_, .bool anch] [.slice A' n' c', .int .i64 0, .int .i64 caps'] [.bool true, .slice (some ⟨bx, ox, none⟩) l1.length c1, .int .i64 wh1, .int .i64 (st1 : Int)] p0 fb A' n' c' L' At nt ct t (some ⟨bx, ox, none⟩) c1 l1 w11 from ⟨HB11.out, HA11.out, HQ11.out, HF11.out, HR11.out, ((HTW.out.below HB11.out).more HB11.out.size), HO11.out⟩)
      go_loopw [17] (fun iv W => ∃ i : Nat, at_.toNat ≤ i ∧ i ≤ j ∧ iv = .int .i64 (i : Int) ∧ L12 w [.slice A n c, .int .i64 start, .int .i64 caps, .slice At nt ct, .int .i64 at_, .bool anch] [.slice A' n' c', .int .i64 0, .int .i64 caps'] [.bool true, .slice (some ⟨bx, ox, none⟩) l1.length c1, .int .i64 wh1, .int .i64 (st1 : Int)] p0 fb A' n' c' L' At nt ct t (some ⟨bx, ox, none⟩) c1 l1 W) (fun iv _ => nt + 1 - (intOf iv).toNat)
      case atStart => exact ⟨at_.toNat, Nat.le_refl _, HJJ.out.1, by rw [Int.toNat_of_nonneg KK.out.2.1], HL.out⟩
      case round =>
        obtain ⟨i, hi0, hij, rfl, hl⟩ := hrel
        have HLI := Lib.hid hl
        have HI0 := Lib.hid hi0
        have hkk := KK.out.2.2
        have hjn := HJJ.out.2
        have q0 : wr.cell? ⟨p0, 0, none⟩ = some (.slice A' n' c') := HLI.out.pb.cell 0
        have q1 : wr.cell? ⟨p0, 1, none⟩ = some (.int .i64 0) := HLI.out.pb.cell 1
        have q2 : wr.cell? ⟨p0, 2, none⟩ = some (.int .i64 caps') := HLI.out.pb.cell 2
        have a0 : wr.cell? ⟨w.heap.size + 1, 0, none⟩ = some (.slice A n c) := HLI.out.ask.cell 0
        have a1 : wr.cell? ⟨w.heap.size + 1, 1, none⟩ = some (.int .i64 start) := HLI.out.ask.cell 1
        have a2 : wr.cell? ⟨w.heap.size + 1, 2, none⟩ = some (.int .i64 caps) := HLI.out.ask.cell 2
        have a3 : wr.cell? ⟨w.heap.size + 1, 3, none⟩ = some (.slice At nt ct) := HLI.out.ask.cell 3
        have a4 : wr.cell? ⟨w.heap.size + 1, 4, none⟩ = some (.int .i64 at_) := HLI.out.ask.cell 4
        have a5 : wr.cell? ⟨w.heap.size + 1, 5, none⟩ = some (.bool anch) := HLI.out.ask.cell 5
        have u0 : wr.cell? ⟨fb, 0, none⟩ = some (.bool true) := HLI.out.fb.cell 0
        have u1 : wr.cell? ⟨fb, 1, none⟩ = some (.slice (some ⟨bx, ox, none⟩) l1.length c1) := HLI.out.fb.cell 1
        have u2 : wr.cell? ⟨fb, 2, none⟩ = some (.int .i64 wh1) := HLI.out.fb.cell 2
        have u3 : wr.cell? ⟨fb, 3, none⟩ = some (.int .i64 (st1 : Int)) := HLI.out.fb.cell 3
        clear hl hi0
        have hlt2 : (i : Int) ≤ (nt : Int) := by omega
        go_wp2_with fail
        refine (run_any A' At n' c' nt ct L' t 0 caps' (i : Int) true wr HLI.out.rp HLI.out.rt).mono ?_
        rintro e w12 hrp
        rw [HTD.out.one i HI0.out (by rw [HTL.out]; omega)] at hrp
        by_cases hji : i = j
        · subst hji
          rw [HRR.out] at hrp
          obtain ⟨cv, rfl, ho, hb⟩ := hrp
          generalize (oneAt ⟨insL L', 0, caps'⟩ t i).steps = sx at *
          have HL12 := Lib.hid (HLI.out.later hb)
          obtain ⟨X3, c3, rfl⟩ := own_shape ho
          have hcl : capsOf ((0 : Int), some rr, sx) = l1 := HL1.out.symm
          rw [hcl] at ho ⊢
          have hro := Reads.of_own ho
          clear ho hb q0 q1 q2 a0 a1 a2 a3 a4 a5 u0 u1 u2 u3 hcl
          have hbx : Below w12.heap.size w12 (w12.alloc (.cells #[.bool true, .slice X3 l1.length c3, .int .i64 wh1, .int .i64 (sx : Int)] 38)) := (Below.refl _ _).alloc (Nat.le_refl _) _
          have HL13 := Lib.hid (HL12.out.later (W' := (w12.alloc (.cells #[.bool true, .slice X3 l1.length c3, .int .i64 wh1, .int .i64 (sx : Int)] 38))) hbx)
          have HRO := Lib.hid ((hro.below hbx).more hbx.size)
          have HXX := Lib.hid (Blk.new w12 38 [.bool true, .slice X3 l1.length c3, .int .i64 wh1, .int .i64 (sx : Int)])
          simp only [Option.isSome_some, Option.elim_some]
          rw [← HWH.out]
          have hx0 : (w12.alloc (.cells #[.bool true, .slice X3 l1.length c3, .int .i64 wh1, .int .i64 (sx : Int)] 38)).cell? ⟨bx, ox, none⟩ = some (.int .i64 (i : Int)) := by
            have := HL13.out.own.cellAt HJ2.out
            rwa [Nat.add_zero] at this
          have u0 : (w12.alloc (.cells #[.bool true, .slice X3 l1.length c3, .int .i64 wh1, .int .i64 (sx : Int)] 38)).cell? ⟨fb, 0, none⟩ = some (.bool true) := HL13.out.fb.cell 0
          have u1 : (w12.alloc (.cells #[.bool true, .slice X3 l1.length c3, .int .i64 wh1, .int .i64 (sx : Int)] 38)).cell? ⟨fb, 1, none⟩ = some (.slice (some ⟨bx, ox, none⟩) l1.length c1) := HL13.out.fb.cell 1
          have u2 : (w12.alloc (.cells #[.bool true, .slice X3 l1.length c3, .int .i64 wh1, .int .i64 (sx : Int)] 38)).cell? ⟨fb, 2, none⟩ = some (.int .i64 wh1) := HL13.out.fb.cell 2
          have u3 : (w12.alloc (.cells #[.bool true, .slice X3 l1.length c3, .int .i64 wh1, .int .i64 (sx : Int)] 38)).cell? ⟨fb, 3, none⟩ = some (.int .i64 (st1 : Int)) := HL13.out.fb.cell 3
          have x0 : (w12.alloc (.cells #[.bool true, .slice X3 l1.length c3, .int .i64 wh1, .int .i64 (sx : Int)] 38)).cell? ⟨w12.heap.size, 0, none⟩ = some (.bool true) := HXX.out.cell 0
          have x1 : (w12.alloc (.cells #[.bool true, .slice X3 l1.length c3, .int .i64 wh1, .int .i64 (sx : Int)] 38)).cell? ⟨w12.heap.size, 1, none⟩ = some (.slice X3 l1.length c3) := HXX.out.cell 1
          have x2 : (w12.alloc (.cells #[.bool true, .slice X3 l1.length c3, .int .i64 wh1, .int .i64 (sx : Int)] 38)).cell? ⟨w12.heap.size, 2, none⟩ = some (.int .i64 wh1) := HXX.out.cell 2
          have x3 : (w12.alloc (.cells #[.bool true, .slice X3 l1.length c3, .int .i64 wh1, .int .i64 (sx : Int)] 38)).cell? ⟨w12.heap.size, 3, none⟩ = some (.int .i64 (sx : Int)) := HXX.out.cell 3
          have HSF := Lib.hid (sameFind_any true wh1 (sx : Int) (st1 : Int) l1 X3 (some ⟨bx, ox, none⟩) l1.length c3 c1 (w12.alloc (.cells #[.bool true, .slice X3 l1.length c3, .int .i64 wh1, .int .i64 (sx : Int)] 38)) HRO.out HL13.out.own)
          clear hro hbx
          go_wp2_with fail
          refine HSF.out.mono ?_
          rintro e w14 ⟨rfl, hb⟩
          have HL14 := Lib.hid (HL13.out.later hb)
          clear hb
          simp only []
          go_wp2_with fail
          go_ret
          exact ⟨rfl, HL14.out.below⟩
        · rw [HJN.out i HI0.out (by omega)] at hrp
          obtain ⟨cv, rfl, ho, hb⟩ := hrp
          generalize (oneAt ⟨insL L', 0, caps'⟩ t i).steps = sx at *
          have HL12 := Lib.hid (HLI.out.later hb)
          obtain ⟨X3, c3, rfl⟩ := own_shape ho
          clear ho hb q0 q1 q2 a0 a1 a2 a3 a4 a5 u0 u1 u2 u3
          generalize (capsOf ((0 : Int), (none : Option (List Int × Int)), sx)).length = k3 at *
          have HL13 := Lib.hid (HL12.out.later (W' := (w12.alloc (.cells #[.bool false, .slice X3 k3 c3, .int .i64 0, .int .i64 (sx : Int)] 38))) ((Below.refl _ _).alloc (Nat.le_refl _) _))
          have HXX := Lib.hid (Blk.new w12 38 [.bool false, .slice X3 k3 c3, .int .i64 0, .int .i64 (sx : Int)])
          simp only [Option.isSome_none, Option.elim_none]
          have hx0 : (w12.alloc (.cells #[.bool false, .slice X3 k3 c3, .int .i64 0, .int .i64 (sx : Int)] 38)).cell? ⟨bx, ox, none⟩ = some (.int .i64 (j : Int)) := by
            have := HL13.out.own.cellAt HJ2.out
            rwa [Nat.add_zero] at this
          have u0 : (w12.alloc (.cells #[.bool false, .slice X3 k3 c3, .int .i64 0, .int .i64 (sx : Int)] 38)).cell? ⟨fb, 0, none⟩ = some (.bool true) := HL13.out.fb.cell 0
          have u1 : (w12.alloc (.cells #[.bool false, .slice X3 k3 c3, .int .i64 0, .int .i64 (sx : Int)] 38)).cell? ⟨fb, 1, none⟩ = some (.slice (some ⟨bx, ox, none⟩) l1.length c1) := HL13.out.fb.cell 1
          have u2 : (w12.alloc (.cells #[.bool false, .slice X3 k3 c3, .int .i64 0, .int .i64 (sx : Int)] 38)).cell? ⟨fb, 2, none⟩ = some (.int .i64 wh1) := HL13.out.fb.cell 2
          have u3 : (w12.alloc (.cells #[.bool false, .slice X3 k3 c3, .int .i64 0, .int .i64 (sx : Int)] 38)).cell? ⟨fb, 3, none⟩ = some (.int .i64 (st1 : Int)) := HL13.out.fb.cell 3
          have x0 : (w12.alloc (.cells #[.bool false, .slice X3 k3 c3, .int .i64 0, .int .i64 (sx : Int)] 38)).cell? ⟨w12.heap.size, 0, none⟩ = some (.bool false) := HXX.out.cell 0
          have hnij : ¬ ((i : Int) = (j : Int)) := by omega
          have hnij2 : ((i : Int) == (j : Int)) = false := beq_eq_false_iff_ne.2 hnij
          have hwi : IntKind.i64.wrap ((i : Int) + 1) = (i : Int) + 1 := wrI12 (by omega)
          go_wp2_with fail
          go_roundw
          case rel => exact ⟨i + 1, by have := HI0.out; omega, by omega, by go_num, HL13.out⟩
          case measure => simp [intOf]; omega
set_option maxRecDepth 100000 in
set_option maxHeartbeats 8000000 in
theorem bst_bad (k : Int) (r : List (Int × Int)) (ra : Option Addr) (rc : Nat) (ast : Int) (l : List Ta) (sa : Option Addr) (sc : Nat) (mn mx : Int) (z : Bool) (ix : Int) (nm : ByteArray) (S : Nat → Prop) (A At : Option Addr) (n c nt ct : Nat) (L : List InV) (t : List Int) (start caps at_ : Int) (anch : Bool) (w : World) (h : RT w S (Ta.mk k r ra rc ast l sa sc mn mx z ix nm)) (hS : ∀ b, S b → b < w.heap.size) (hP : ReadsP w w.heap.size A n c L) (hT : Reads w w.heap.size 1 At nt ct (t.map (Value.int .i64))) (hc : cmpE (Ta.mk k r ra rc ast l sa sc mn mx z ix nm).tr ≠ 0) :
    Calls Try.prog 3 #[(Ta.mk k r ra rc ast l sa sc mn mx z ix nm).val, .agg #[.slice A n c, .int .i64 start, .int .i64 caps, .slice At nt ct, .int .i64 at_, .bool anch]] w fun e w' => e = .returned (.bool true) ∧ Below w.heap.size w w' := by
  have hb0 : Below w.heap.size w ((w.alloc (.cells #[.int .i64 k, .slice ra r.length rc, .int .i64 ast, .slice sa l.length sc, .int .i64 mn, .int .i64 mx, .bool z, .int .i64 ix, .string nm] 25)).alloc (.cells #[.slice A n c, .int .i64 start, .int .i64 caps, .slice At nt ct, .int .i64 at_, .bool anch] 31)) := ((Below.refl _ _).alloc (Nat.le_refl _) _).alloc (by simp) _
  have HX0 := Lib.hid ((Blk.new w 25 [.int .i64 k, .slice ra r.length rc, .int .i64 ast, .slice sa l.length sc, .int .i64 mn, .int .i64 mx, .bool z, .int .i64 ix, .string nm]).alloc (.cells #[.slice A n c, .int .i64 start, .int .i64 caps, .slice At nt ct, .int .i64 at_, .bool anch] 31))
  have hA0 : Blk ((w.alloc (.cells #[.int .i64 k, .slice ra r.length rc, .int .i64 ast, .slice sa l.length sc, .int .i64 mn, .int .i64 mx, .bool z, .int .i64 ix, .string nm] 25)).alloc (.cells #[.slice A n c, .int .i64 start, .int .i64 caps, .slice At nt ct, .int .i64 at_, .bool anch] 31)) (w.heap.size + 1) 31 [.slice A n c, .int .i64 start, .int .i64 caps, .slice At nt ct, .int .i64 at_, .bool anch] := by
    have := Blk.new (w.alloc (.cells #[.int .i64 k, .slice ra r.length rc, .int .i64 ast, .slice sa l.length sc, .int .i64 mn, .int .i64 mx, .bool z, .int .i64 ix, .string nm] 25)) 31 [.slice A n c, .int .i64 start, .int .i64 caps, .slice At nt ct, .int .i64 at_, .bool anch]
    rw [show (w.alloc (.cells #[.int .i64 k, .slice ra r.length rc, .int .i64 ast, .slice sa l.length sc, .int .i64 mn, .int .i64 mx, .bool z, .int .i64 ix, .string nm] 25)).heap.size = w.heap.size + 1 from by simp] at this
    exact this
  have HA0 := Lib.hid hA0
  have HN0 := Lib.hid h
  have HSS := Lib.hid hS
  have HB0 := Lib.hid hb0
  have HPW := Lib.hid hP
  have HTW := Lib.hid hT
  have hs0 : w.heap.size + 2 ≤ ((w.alloc (.cells #[.int .i64 k, .slice ra r.length rc, .int .i64 ast, .slice sa l.length sc, .int .i64 mn, .int .i64 mx, .bool z, .int .i64 ix, .string nm] 25)).alloc (.cells #[.slice A n c, .int .i64 start, .int .i64 caps, .slice At nt ct, .int .i64 at_, .bool anch] 31)).heap.size := by simp
  have HC := Lib.hid hc
  have htl : t.length = nt := by have := hT.len; simpa using this
  have HTL := Lib.hid htl
  have HCO := Lib.hid (fun u hu hs => compile_any (Ta.mk k r ra rc ast l sa sc mn mx z ix nm) S u hu hs)
  have HDP := Lib.hid (fun u hu hs => deep_any (Ta.mk k r ra rc ast l sa sc mn mx z ix nm) S u hu hs)
  have HHV := Lib.hid (fun u hu hs => heavy_any (Ta.mk k r ra rc ast l sa sc mn mx z ix nm) S u hu hs)
  clear h hS hb0 hP hT hA0 hc htl
  simp only [Ta.val, Ta.vals] at HCO HDP HHV ⊢
  go_enter Try.func3, Try.ntmps3
  go_wp2_with fail
  generalize ((w.alloc (.cells #[.int .i64 k, .slice ra r.length rc, .int .i64 ast, .slice sa l.length sc, .int .i64 mn, .int .i64 mx, .bool z, .int .i64 ix, .string nm] 25)).alloc (.cells #[.slice A n c, .int .i64 start, .int .i64 caps, .slice At nt ct, .int .i64 at_, .bool anch] 31)) = w0 at *
  refine (HDP.out w0 (HN0.out.below HSS.out HB0.out) (fun b hb => Nat.lt_of_lt_of_le (HSS.out b hb) HB0.out.size)).mono ?_
  rintro e w1 ⟨rfl, hb⟩
  have HB1 := Lib.hid (HB0.out.trans (hb.mono HB0.out.size))
  have hs1 := Nat.le_trans hs0 hb.size
  have HX1 := Lib.hid (HX0.out.below hb HX0.out.lt)
  have HA1 := Lib.hid (HA0.out.below hb HA0.out.lt)
  clear hb
  obtain ⟨dp, hdp⟩ : ∃ q, q = decide (4194304 < Tr.size (Ta.mk k r ra rc ast l sa sc mn mx z ix nm).tr) := ⟨_, rfl⟩
  rw [← hdp]
  clear hdp HDP
  simp only []
  cases dp with
  | true =>
    go_wp2_with fail
    go_ret
    exact ⟨rfl, HB1.out⟩
  | false =>
  have t0 : w1.cell? ⟨w.heap.size, 0, none⟩ = some (.int .i64 k) := HX1.out.cell 0
  have t1 : w1.cell? ⟨w.heap.size, 1, none⟩ = some (.slice ra r.length rc) := HX1.out.cell 1
  have t2 : w1.cell? ⟨w.heap.size, 2, none⟩ = some (.int .i64 ast) := HX1.out.cell 2
  have t3 : w1.cell? ⟨w.heap.size, 3, none⟩ = some (.slice sa l.length sc) := HX1.out.cell 3
  have t4 : w1.cell? ⟨w.heap.size, 4, none⟩ = some (.int .i64 mn) := HX1.out.cell 4
  have t5 : w1.cell? ⟨w.heap.size, 5, none⟩ = some (.int .i64 mx) := HX1.out.cell 5
  have t6 : w1.cell? ⟨w.heap.size, 6, none⟩ = some (.bool z) := HX1.out.cell 6
  have t7 : w1.cell? ⟨w.heap.size, 7, none⟩ = some (.int .i64 ix) := HX1.out.cell 7
  have t8 : w1.cell? ⟨w.heap.size, 8, none⟩ = some (.string nm) := HX1.out.cell 8
  go_wp2_with fail
  refine (HHV.out w1 (HN0.out.below HSS.out HB1.out) (fun b hb => Nat.lt_of_lt_of_le (HSS.out b hb) HB1.out.size)).mono ?_
  rintro e w2 ⟨⟨hv, rfl⟩, hb⟩
  clear t0 t1 t2 t3 t4 t5 t6 t7 t8 HHV
  have HB2 := Lib.hid (HB1.out.trans (hb.mono HB1.out.size))
  have hs2 := Nat.le_trans hs1 hb.size
  have HX2 := Lib.hid (HX1.out.below hb HX1.out.lt)
  have HA2 := Lib.hid (HA1.out.below hb HA1.out.lt)
  clear hb
  simp only []
  cases hv with
  | true =>
    go_wp2_with fail
    go_ret
    exact ⟨rfl, HB2.out⟩
  | false =>
  go_wp2_with fail
  refine (awake12_any w2).mono ?_
  rintro e w3 ⟨rfl, hb⟩
  have HB3 := Lib.hid (HB2.out.trans (hb.mono HB2.out.size))
  have hs3 := Nat.le_trans hs2 hb.size
  have HX3 := Lib.hid (HX2.out.below hb HX2.out.lt)
  have HA3 := Lib.hid (HA2.out.below hb HA2.out.lt)
  clear hb
  have t0 : w3.cell? ⟨w.heap.size, 0, none⟩ = some (.int .i64 k) := HX3.out.cell 0
  have t1 : w3.cell? ⟨w.heap.size, 1, none⟩ = some (.slice ra r.length rc) := HX3.out.cell 1
  have t2 : w3.cell? ⟨w.heap.size, 2, none⟩ = some (.int .i64 ast) := HX3.out.cell 2
  have t3 : w3.cell? ⟨w.heap.size, 3, none⟩ = some (.slice sa l.length sc) := HX3.out.cell 3
  have t4 : w3.cell? ⟨w.heap.size, 4, none⟩ = some (.int .i64 mn) := HX3.out.cell 4
  have t5 : w3.cell? ⟨w.heap.size, 5, none⟩ = some (.int .i64 mx) := HX3.out.cell 5
  have t6 : w3.cell? ⟨w.heap.size, 6, none⟩ = some (.bool z) := HX3.out.cell 6
  have t7 : w3.cell? ⟨w.heap.size, 7, none⟩ = some (.int .i64 ix) := HX3.out.cell 7
  have t8 : w3.cell? ⟨w.heap.size, 8, none⟩ = some (.string nm) := HX3.out.cell 8
  have a0 : w3.cell? ⟨w.heap.size + 1, 0, none⟩ = some (.slice A n c) := HA3.out.cell 0
  have a1 : w3.cell? ⟨w.heap.size + 1, 1, none⟩ = some (.int .i64 start) := HA3.out.cell 1
  have a2 : w3.cell? ⟨w.heap.size + 1, 2, none⟩ = some (.int .i64 caps) := HA3.out.cell 2
  have a3 : w3.cell? ⟨w.heap.size + 1, 3, none⟩ = some (.slice At nt ct) := HA3.out.cell 3
  have a4 : w3.cell? ⟨w.heap.size + 1, 4, none⟩ = some (.int .i64 at_) := HA3.out.cell 4
  have a5 : w3.cell? ⟨w.heap.size + 1, 5, none⟩ = some (.bool anch) := HA3.out.cell 5
  simp only []
  have hbp : Below w3.heap.size w3 (w3.alloc (.cells #[.slice A n c, .int .i64 start, .int .i64 caps] 28)) := (Below.refl _ _).alloc (Nat.le_refl _) _
  have HB4 := Lib.hid (HB3.out.trans (hbp.mono HB3.out.size))
  have hs4 := Nat.le_trans hs3 hbp.size
  have HX4 := Lib.hid (HX3.out.below hbp HX3.out.lt)
  have HA4 := Lib.hid (HA3.out.below hbp HA3.out.lt)
  have HQ4 := Lib.hid (Blk.new w3 28 [.slice A n c, .int .i64 start, .int .i64 caps])
  clear t0 t1 t2 t3 t4 t5 t6 t7 t8
  have t0 : (w3.alloc (.cells #[.slice A n c, .int .i64 start, .int .i64 caps] 28)).cell? ⟨w.heap.size, 0, none⟩ = some (.int .i64 k) := HX4.out.cell 0
  have t1 : (w3.alloc (.cells #[.slice A n c, .int .i64 start, .int .i64 caps] 28)).cell? ⟨w.heap.size, 1, none⟩ = some (.slice ra r.length rc) := HX4.out.cell 1
  have t2 : (w3.alloc (.cells #[.slice A n c, .int .i64 start, .int .i64 caps] 28)).cell? ⟨w.heap.size, 2, none⟩ = some (.int .i64 ast) := HX4.out.cell 2
  have t3 : (w3.alloc (.cells #[.slice A n c, .int .i64 start, .int .i64 caps] 28)).cell? ⟨w.heap.size, 3, none⟩ = some (.slice sa l.length sc) := HX4.out.cell 3
  have t4 : (w3.alloc (.cells #[.slice A n c, .int .i64 start, .int .i64 caps] 28)).cell? ⟨w.heap.size, 4, none⟩ = some (.int .i64 mn) := HX4.out.cell 4
  have t5 : (w3.alloc (.cells #[.slice A n c, .int .i64 start, .int .i64 caps] 28)).cell? ⟨w.heap.size, 5, none⟩ = some (.int .i64 mx) := HX4.out.cell 5
  have t6 : (w3.alloc (.cells #[.slice A n c, .int .i64 start, .int .i64 caps] 28)).cell? ⟨w.heap.size, 6, none⟩ = some (.bool z) := HX4.out.cell 6
  have t7 : (w3.alloc (.cells #[.slice A n c, .int .i64 start, .int .i64 caps] 28)).cell? ⟨w.heap.size, 7, none⟩ = some (.int .i64 ix) := HX4.out.cell 7
  have t8 : (w3.alloc (.cells #[.slice A n c, .int .i64 start, .int .i64 caps] 28)).cell? ⟨w.heap.size, 8, none⟩ = some (.string nm) := HX4.out.cell 8
  go_wp2_with fail
  clear hbp t0 t1 t2 t3 t4 t5 t6 t7 t8 a0 a1 a2 a3 a4 a5
  generalize (w3.alloc (.cells #[.slice A n c, .int .i64 start, .int .i64 caps] 28)) = w4 at *
  generalize hp0 : w3.heap.size = p0 at *
  refine (HCO.out w4 (HN0.out.below HSS.out HB4.out) (fun b hb => Nat.lt_of_lt_of_le (HSS.out b hb) HB4.out.size)).mono ?_
  rintro e w5 ⟨⟨A', n', c', L', caps', rfl, hln, hra, hel, hok⟩, hb⟩
  have HB5 := Lib.hid (HB4.out.trans (hb.mono HB4.out.size))
  have hs5 := Nat.le_trans hs4 hb.size
  have HX5 := Lib.hid (HX4.out.below hb HX4.out.lt)
  have HA5 := Lib.hid (HA4.out.below hb HA4.out.lt)
  have HQ5 := Lib.hid (HQ4.out.below hb HQ4.out.lt)
  have hp4 := HQ4.out.lt
  have hb45 := hb.size
  clear hb HCO
  have hbc : Below w5.heap.size w5 (w5.alloc (.cells #[.slice A' n' c', .int .i64 0, .int .i64 caps'] 28)) := (Below.refl _ _).alloc (Nat.le_refl _) _
  have HB6 := Lib.hid (HB5.out.trans (hbc.mono HB5.out.size))
  have hs6 := Nat.le_trans hs5 hbc.size
  have HX6 := Lib.hid (HX5.out.below hbc HX5.out.lt)
  have HA6 := Lib.hid (HA5.out.below hbc HA5.out.lt)
  have HQ6 := Lib.hid (HQ5.out.below hbc HQ5.out.lt)
  have hc5 : w5.heap.size < (w5.alloc (.cells #[.slice A' n' c', .int .i64 0, .int .i64 caps'] 28)).heap.size := by simp
  have hne : (cmpE (Ta.mk k r ra rc ast l sa sc mn mx z ix nm).tr == 0) = false := by simpa using HC.out
  obtain ⟨ev, hev⟩ : ∃ q, q = cmpE (Ta.mk k r ra rc ast l sa sc mn mx z ix nm).tr := ⟨_, rfl⟩
  rw [← hev] at hne ⊢
  clear hev HC hok hra hel hln
  have a0 : (w5.alloc (.cells #[.slice A' n' c', .int .i64 0, .int .i64 caps'] 28)).cell? ⟨w.heap.size + 1, 0, none⟩ = some (.slice A n c) := HA6.out.cell 0
  have a1 : (w5.alloc (.cells #[.slice A' n' c', .int .i64 0, .int .i64 caps'] 28)).cell? ⟨w.heap.size + 1, 1, none⟩ = some (.int .i64 start) := HA6.out.cell 1
  have a2 : (w5.alloc (.cells #[.slice A' n' c', .int .i64 0, .int .i64 caps'] 28)).cell? ⟨w.heap.size + 1, 2, none⟩ = some (.int .i64 caps) := HA6.out.cell 2
  have a3 : (w5.alloc (.cells #[.slice A' n' c', .int .i64 0, .int .i64 caps'] 28)).cell? ⟨w.heap.size + 1, 3, none⟩ = some (.slice At nt ct) := HA6.out.cell 3
  have a4 : (w5.alloc (.cells #[.slice A' n' c', .int .i64 0, .int .i64 caps'] 28)).cell? ⟨w.heap.size + 1, 4, none⟩ = some (.int .i64 at_) := HA6.out.cell 4
  have a5 : (w5.alloc (.cells #[.slice A' n' c', .int .i64 0, .int .i64 caps'] 28)).cell? ⟨w.heap.size + 1, 5, none⟩ = some (.bool anch) := HA6.out.cell 5
  have q0 : (w5.alloc (.cells #[.slice A' n' c', .int .i64 0, .int .i64 caps'] 28)).cell? ⟨p0, 0, none⟩ = some (.slice A n c) := HQ6.out.cell 0
  have q1 : (w5.alloc (.cells #[.slice A' n' c', .int .i64 0, .int .i64 caps'] 28)).cell? ⟨p0, 1, none⟩ = some (.int .i64 start) := HQ6.out.cell 1
  have q2 : (w5.alloc (.cells #[.slice A' n' c', .int .i64 0, .int .i64 caps'] 28)).cell? ⟨p0, 2, none⟩ = some (.int .i64 caps) := HQ6.out.cell 2
  have HR6 := Lib.hid ((HPW.out.below HB6.out).more HB6.out.size)
  clear hbc
  simp only []
  go_wp2_with fail
  generalize (w5.alloc (.cells #[.slice A' n' c', .int .i64 0, .int .i64 caps'] 28)) = w7 at *
  refine (run_any A At n c nt ct L t start caps at_ false w7 HR6.out ((HTW.out.below HB6.out).more HB6.out.size)).mono ?_
  rintro e w8 hrp
  obtain ⟨⟨er1, fo1, st1⟩, hr1⟩ : ∃ r, r = runR ⟨insL L, start, caps⟩ t at_ false := ⟨_, rfl⟩
  rw [← hr1] at hrp
  obtain ⟨cv, rfl, ho, hb⟩ := hrp
  obtain ⟨X1, c1, rfl⟩ := own_shape ho
  have HB8 := Lib.hid (HB6.out.trans (hb.mono HB6.out.size))
  have hs8 := Nat.le_trans hs6 hb.size
  have HA8 := Lib.hid (HA6.out.below hb HA6.out.lt)
  have HQ8 := Lib.hid (HQ6.out.below hb HQ6.out.lt)
  have HR8 := Lib.hid ((HR6.out.below hb).more hb.size)
  obtain ⟨b1, hb1⟩ : ∃ b : Bool, b = fo1.isSome := ⟨_, rfl⟩
  obtain ⟨wh1, hwh1⟩ : ∃ z : Int, z = fo1.elim 0 (·.2) := ⟨_, rfl⟩
  obtain ⟨l1, hl1⟩ : ∃ l : List Int, l = capsOf (er1, fo1, st1) := ⟨_, rfl⟩
  simp only []
  rw [← hl1] at ho ⊢
  rw [← hb1, ← hwh1]
  have Hhr1 := Lib.hid hr1
  have Hb1 := Lib.hid hb1
  have Hwh1 := Lib.hid hwh1
  have Hl1 := Lib.hid hl1
  clear hb1 hwh1 hl1 hr1
  have HO8 := Lib.hid (Reads.of_own ho)
  clear ho hb a0 a1 a2 a3 a4 a5
  have hbf : Below w8.heap.size w8 (w8.alloc (.cells #[.bool b1, .slice X1 l1.length c1, .int .i64 wh1, .int .i64 (st1 : Int)] 38)) := (Below.refl _ _).alloc (Nat.le_refl _) _
  have HB9 := Lib.hid (HB8.out.trans (hbf.mono HB8.out.size))
  have hs9 := Nat.le_trans hs8 hbf.size
  have HA9 := Lib.hid (HA8.out.below hbf HA8.out.lt)
  have HQ9 := Lib.hid (HQ8.out.below hbf HQ8.out.lt)
  have HR9 := Lib.hid ((HR8.out.below hbf).more hbf.size)
  have HO9 := Lib.hid ((HO8.out.below hbf).more hbf.size)
  have HF9 := Lib.hid (Blk.new w8 38 [.bool b1, .slice X1 l1.length c1, .int .i64 wh1, .int .i64 (st1 : Int)])
  clear hbf
  by_cases he : er1 = 0
  case neg =>
    have hne2 : (er1 == 0) = false := by simpa using he
    go_wp2_with fail
    go_ret
    exact ⟨rfl, HB9.out⟩
  subst he
  have HTD := Lib.hid (told (p := ⟨insL L, start, caps⟩) (t := t) (a := at_) (by rw [← Hhr1.out]))
  have q0 : (w8.alloc (.cells #[.bool b1, .slice X1 l1.length c1, .int .i64 wh1, .int .i64 (st1 : Int)] 38)).cell? ⟨p0, 0, none⟩ = some (.slice A n c) := HQ9.out.cell 0
  have q1 : (w8.alloc (.cells #[.bool b1, .slice X1 l1.length c1, .int .i64 wh1, .int .i64 (st1 : Int)] 38)).cell? ⟨p0, 1, none⟩ = some (.int .i64 start) := HQ9.out.cell 1
  have q2 : (w8.alloc (.cells #[.bool b1, .slice X1 l1.length c1, .int .i64 wh1, .int .i64 (st1 : Int)] 38)).cell? ⟨p0, 2, none⟩ = some (.int .i64 caps) := HQ9.out.cell 2
  have a0 : (w8.alloc (.cells #[.bool b1, .slice X1 l1.length c1, .int .i64 wh1, .int .i64 (st1 : Int)] 38)).cell? ⟨w.heap.size + 1, 0, none⟩ = some (.slice A n c) := HA9.out.cell 0
  have a1 : (w8.alloc (.cells #[.bool b1, .slice X1 l1.length c1, .int .i64 wh1, .int .i64 (st1 : Int)] 38)).cell? ⟨w.heap.size + 1, 1, none⟩ = some (.int .i64 start) := HA9.out.cell 1
  have a2 : (w8.alloc (.cells #[.bool b1, .slice X1 l1.length c1, .int .i64 wh1, .int .i64 (st1 : Int)] 38)).cell? ⟨w.heap.size + 1, 2, none⟩ = some (.int .i64 caps) := HA9.out.cell 2
  have a3 : (w8.alloc (.cells #[.bool b1, .slice X1 l1.length c1, .int .i64 wh1, .int .i64 (st1 : Int)] 38)).cell? ⟨w.heap.size + 1, 3, none⟩ = some (.slice At nt ct) := HA9.out.cell 3
  have a4 : (w8.alloc (.cells #[.bool b1, .slice X1 l1.length c1, .int .i64 wh1, .int .i64 (st1 : Int)] 38)).cell? ⟨w.heap.size + 1, 4, none⟩ = some (.int .i64 at_) := HA9.out.cell 4
  have a5 : (w8.alloc (.cells #[.bool b1, .slice X1 l1.length c1, .int .i64 wh1, .int .i64 (st1 : Int)] 38)).cell? ⟨w.heap.size + 1, 5, none⟩ = some (.bool anch) := HA9.out.cell 5
  go_wp2_with fail
  clear q0 q1 q2 a0 a1 a2 a3 a4 a5
  generalize (w8.alloc (.cells #[.bool b1, .slice X1 l1.length c1, .int .i64 wh1, .int .i64 (st1 : Int)] 38)) = w9 at *
  generalize hfb : w8.heap.size = fb at *
  refine (run_any A At n c nt ct L t start caps at_ true w9 HR9.out ((HTW.out.below HB9.out).more HB9.out.size)).mono ?_
  rintro e w10 hrp
  obtain ⟨⟨er2, fo2, st2⟩, hr2⟩ : ∃ r, r = runR ⟨insL L, start, caps⟩ t at_ true := ⟨_, rfl⟩
  rw [← hr2] at hrp
  obtain ⟨cv, rfl, ho, hb⟩ := hrp
  obtain ⟨X2, c2, rfl⟩ := own_shape ho
  have HB10 := Lib.hid (HB9.out.trans (hb.mono HB9.out.size))
  have hs10 := Nat.le_trans hs9 hb.size
  have HA10 := Lib.hid (HA9.out.below hb HA9.out.lt)
  have HQ10 := Lib.hid (HQ9.out.below hb HQ9.out.lt)
  have HR10 := Lib.hid ((HR9.out.below hb).more hb.size)
  have HO10 := Lib.hid ((HO9.out.below hb).more hb.size)
  have HF10 := Lib.hid (HF9.out.below hb HF9.out.lt)
  obtain ⟨b2, hb2⟩ : ∃ b : Bool, b = fo2.isSome := ⟨_, rfl⟩
  obtain ⟨wh2, hwh2⟩ : ∃ z : Int, z = fo2.elim 0 (·.2) := ⟨_, rfl⟩
  obtain ⟨l2, hl2⟩ : ∃ l : List Int, l = capsOf (er2, fo2, st2) := ⟨_, rfl⟩
  simp only []
  rw [← hl2] at ho ⊢
  rw [← hb2, ← hwh2]
  have Hhr2 := Lib.hid hr2
  have Hb2 := Lib.hid hb2
  have Hwh2 := Lib.hid hwh2
  have Hl2 := Lib.hid hl2
  clear hb2 hwh2 hl2 hr2
  clear ho hb
  have he2 : er2 = 0 := by have hx := HTD.out.same; rw [← Hhr2.out] at hx; exact hx
  subst he2
  have hbg : Below w10.heap.size w10 (w10.alloc (.cells #[.bool b2, .slice X2 l2.length c2, .int .i64 wh2, .int .i64 (st2 : Int)] 38)) := (Below.refl _ _).alloc (Nat.le_refl _) _
  have HB11 := Lib.hid (HB10.out.trans (hbg.mono HB10.out.size))
  have hs11 := Nat.le_trans hs10 hbg.size
  have HA11 := Lib.hid (HA10.out.below hbg HA10.out.lt)
  have HQ11 := Lib.hid (HQ10.out.below hbg HQ10.out.lt)
  have HR11 := Lib.hid ((HR10.out.below hbg).more hbg.size)
  have HO11 := Lib.hid ((HO10.out.below hbg).more hbg.size)
  have HF11 := Lib.hid (HF10.out.below hbg HF10.out.lt)
  have HG11 := Lib.hid (Blk.new w10 38 [.bool b2, .slice X2 l2.length c2, .int .i64 wh2, .int .i64 (st2 : Int)])
  clear hbg
  have k0 := HTD.out.s0
  have k1 := HTD.out.s1
  have k2 := HTD.out.s2
  have k3 := HTD.out.s3
  have k4 := HTD.out.room
  have k5 := HTD.out.a0
  have k6 := HTD.out.a1
  have k7 := HTD.out.len
  have k8 : b2 = true → b1 = true := fun hx => by
    have hy := HTD.out.both (by rw [← Hhr2.out]; rw [Hb2.out] at hx; exact hx)
    rw [← Hhr1.out] at hy
    rw [Hb1.out]; exact hy
  rw [← Hhr1.out] at k0 k2 k3
  rw [← Hhr2.out] at k1 k3
  have hil : (insL L).length = n := by rw [insL, List.length_map]; exact HR11.out.len
  simp only [HTL.out, hil] at k0 k1 k2 k3 k4 k6 k7
  obtain ⟨M, hM⟩ : ∃ M : Nat, M = n * (nt - at_.toNat + 1) := ⟨_, rfl⟩
  rw [← hM] at k2 k4
  have hpl : ((nt - at_.toNat + 1 : Nat) : Int) = (nt : Int) - at_ + 1 := by omega
  have hMi : (n : Int) * ((nt : Int) - at_ + 1) = (M : Int) := by rw [hM, Int.natCast_mul, hpl]
  have hw1 : IntKind.i64.wrap ((nt : Int) - at_) = (nt : Int) - at_ := wrI12 (by omega)
  have hw2 : IntKind.i64.wrap ((nt : Int) - at_ + 1) = (nt : Int) - at_ + 1 := wrI12 (by omega)
  have hw3 : IntKind.i64.wrap ((n : Int) * ((nt : Int) - at_ + 1)) = (M : Int) := by rw [hMi]; exact wrI12 (by omega)
  have hc1 : ¬ ((st1 : Int) < 1) := by omega
  have hc2 : ¬ ((st2 : Int) < 1) := by omega
  have hc3 : ¬ ((M : Int) < (st1 : Int)) := by omega
  have hc4 : ¬ ((st1 : Int) < (st2 : Int)) := by omega
  have q0 : (w10.alloc (.cells #[.bool b2, .slice X2 l2.length c2, .int .i64 wh2, .int .i64 (st2 : Int)] 38)).cell? ⟨p0, 0, none⟩ = some (.slice A n c) := HQ11.out.cell 0
  have q1 : (w10.alloc (.cells #[.bool b2, .slice X2 l2.length c2, .int .i64 wh2, .int .i64 (st2 : Int)] 38)).cell? ⟨p0, 1, none⟩ = some (.int .i64 start) := HQ11.out.cell 1
  have q2 : (w10.alloc (.cells #[.bool b2, .slice X2 l2.length c2, .int .i64 wh2, .int .i64 (st2 : Int)] 38)).cell? ⟨p0, 2, none⟩ = some (.int .i64 caps) := HQ11.out.cell 2
  have a0 : (w10.alloc (.cells #[.bool b2, .slice X2 l2.length c2, .int .i64 wh2, .int .i64 (st2 : Int)] 38)).cell? ⟨w.heap.size + 1, 0, none⟩ = some (.slice A n c) := HA11.out.cell 0
  have a1 : (w10.alloc (.cells #[.bool b2, .slice X2 l2.length c2, .int .i64 wh2, .int .i64 (st2 : Int)] 38)).cell? ⟨w.heap.size + 1, 1, none⟩ = some (.int .i64 start) := HA11.out.cell 1
  have a2 : (w10.alloc (.cells #[.bool b2, .slice X2 l2.length c2, .int .i64 wh2, .int .i64 (st2 : Int)] 38)).cell? ⟨w.heap.size + 1, 2, none⟩ = some (.int .i64 caps) := HA11.out.cell 2
  have a3 : (w10.alloc (.cells #[.bool b2, .slice X2 l2.length c2, .int .i64 wh2, .int .i64 (st2 : Int)] 38)).cell? ⟨w.heap.size + 1, 3, none⟩ = some (.slice At nt ct) := HA11.out.cell 3
  have a4 : (w10.alloc (.cells #[.bool b2, .slice X2 l2.length c2, .int .i64 wh2, .int .i64 (st2 : Int)] 38)).cell? ⟨w.heap.size + 1, 4, none⟩ = some (.int .i64 at_) := HA11.out.cell 4
  have a5 : (w10.alloc (.cells #[.bool b2, .slice X2 l2.length c2, .int .i64 wh2, .int .i64 (st2 : Int)] 38)).cell? ⟨w.heap.size + 1, 5, none⟩ = some (.bool anch) := HA11.out.cell 5
  have u0 : (w10.alloc (.cells #[.bool b2, .slice X2 l2.length c2, .int .i64 wh2, .int .i64 (st2 : Int)] 38)).cell? ⟨fb, 0, none⟩ = some (.bool b1) := HF11.out.cell 0
  have u1 : (w10.alloc (.cells #[.bool b2, .slice X2 l2.length c2, .int .i64 wh2, .int .i64 (st2 : Int)] 38)).cell? ⟨fb, 1, none⟩ = some (.slice X1 l1.length c1) := HF11.out.cell 1
  have u2 : (w10.alloc (.cells #[.bool b2, .slice X2 l2.length c2, .int .i64 wh2, .int .i64 (st2 : Int)] 38)).cell? ⟨fb, 2, none⟩ = some (.int .i64 wh1) := HF11.out.cell 2
  have u3 : (w10.alloc (.cells #[.bool b2, .slice X2 l2.length c2, .int .i64 wh2, .int .i64 (st2 : Int)] 38)).cell? ⟨fb, 3, none⟩ = some (.int .i64 (st1 : Int)) := HF11.out.cell 3
  have g0 : (w10.alloc (.cells #[.bool b2, .slice X2 l2.length c2, .int .i64 wh2, .int .i64 (st2 : Int)] 38)).cell? ⟨w10.heap.size, 0, none⟩ = some (.bool b2) := HG11.out.cell 0
  have g1 : (w10.alloc (.cells #[.bool b2, .slice X2 l2.length c2, .int .i64 wh2, .int .i64 (st2 : Int)] 38)).cell? ⟨w10.heap.size, 1, none⟩ = some (.slice X2 l2.length c2) := HG11.out.cell 1
  have g2 : (w10.alloc (.cells #[.bool b2, .slice X2 l2.length c2, .int .i64 wh2, .int .i64 (st2 : Int)] 38)).cell? ⟨w10.heap.size, 2, none⟩ = some (.int .i64 wh2) := HG11.out.cell 2
  have g3 : (w10.alloc (.cells #[.bool b2, .slice X2 l2.length c2, .int .i64 wh2, .int .i64 (st2 : Int)] 38)).cell? ⟨w10.heap.size, 3, none⟩ = some (.int .i64 (st2 : Int)) := HG11.out.cell 3
  have KK := Lib.hid (show at_.toNat ≤ nt ∧ 0 ≤ at_ ∧ nt ≤ 4194304 from by omega)
  clear k0 k1 k2 k3 k4 k5 k6 k7 hM hpl hMi hil
  cases b1 with
  | false =>
    have hb2f : b2 = false := by cases b2 with
      | false => rfl
      | true => exact absurd (k8 rfl) (by simp)
    clear k8
    subst hb2f
    go_wp2_with fail
    generalize (w10.alloc (.cells #[.bool false, .slice X2 l2.length c2, .int .i64 wh2, .int .i64 (st2 : Int)] 38)) = w11 at *
    clear q0 q1 q2 a0 a1 a2 a3 a4 a5 u0 u1 u2 u3 g0 g1 g2 g3 hw1 hw2 hw3 hc1 hc2 hc3 hc4
    have HL := Lib.hid (show L12 w [.slice A n c, .int .i64 start, .int .i64 caps, .slice At nt ct, .int .i64 at_, .bool anch] [.slice A n c, .int .i64 start, .int .i64 caps] [.bool false, .slice X1 l1.length c1, .int .i64 wh1, .int .i64 (st1 : Int)] p0 fb A n c L At nt ct t X1 c1 l1 w11 from ⟨HB11.out, HA11.out, HQ11.out, HF11.out, HR11.out, ((HTW.out.below HB11.out).more HB11.out.size), HO11.out⟩)
    have HNO := Lib.hid (show ∀ i : Nat, at_.toNat ≤ i → i ≤ nt → oneR ⟨insL L, start, caps⟩ t i = none from by
      rcases HTD.out.tells with ⟨-, e2⟩ | ⟨j, e1, e2, -⟩
      · intro i h1 h2; exact e2 i h1 (by rw [HTL.out]; exact h2)
      · rw [← Hhr1.out] at e1
        have hx := Hb1.out
        rw [show fo1 = _ from e1, e2] at hx
        cases hx)
    go_loopw [17] (fun iv W => ∃ i : Nat, at_.toNat ≤ i ∧ i ≤ nt + 1 ∧ iv = .int .i64 (i : Int) ∧ L12 w [.slice A n c, .int .i64 start, .int .i64 caps, .slice At nt ct, .int .i64 at_, .bool anch] [.slice A n c, .int .i64 start, .int .i64 caps] [.bool false, .slice X1 l1.length c1, .int .i64 wh1, .int .i64 (st1 : Int)] p0 fb A n c L At nt ct t X1 c1 l1 W) (fun iv _ => nt + 1 - (intOf iv).toNat)
    case atStart => exact ⟨at_.toNat, Nat.le_refl _, by have := KK.out; omega, by rw [Int.toNat_of_nonneg KK.out.2.1], HL.out⟩
    case round =>
      obtain ⟨i, hi0, hi1, rfl, hl⟩ := hrel
      have HLI := Lib.hid hl
      have HI0 := Lib.hid hi0
      have hkk := KK.out.2.2
      have q0 : wr.cell? ⟨p0, 0, none⟩ = some (.slice A n c) := HLI.out.pb.cell 0
      have q1 : wr.cell? ⟨p0, 1, none⟩ = some (.int .i64 start) := HLI.out.pb.cell 1
      have q2 : wr.cell? ⟨p0, 2, none⟩ = some (.int .i64 caps) := HLI.out.pb.cell 2
      have a0 : wr.cell? ⟨w.heap.size + 1, 0, none⟩ = some (.slice A n c) := HLI.out.ask.cell 0
      have a1 : wr.cell? ⟨w.heap.size + 1, 1, none⟩ = some (.int .i64 start) := HLI.out.ask.cell 1
      have a2 : wr.cell? ⟨w.heap.size + 1, 2, none⟩ = some (.int .i64 caps) := HLI.out.ask.cell 2
      have a3 : wr.cell? ⟨w.heap.size + 1, 3, none⟩ = some (.slice At nt ct) := HLI.out.ask.cell 3
      have a4 : wr.cell? ⟨w.heap.size + 1, 4, none⟩ = some (.int .i64 at_) := HLI.out.ask.cell 4
      have a5 : wr.cell? ⟨w.heap.size + 1, 5, none⟩ = some (.bool anch) := HLI.out.ask.cell 5
      have u0 : wr.cell? ⟨fb, 0, none⟩ = some (.bool false) := HLI.out.fb.cell 0
      have u1 : wr.cell? ⟨fb, 1, none⟩ = some (.slice X1 l1.length c1) := HLI.out.fb.cell 1
      have u2 : wr.cell? ⟨fb, 2, none⟩ = some (.int .i64 wh1) := HLI.out.fb.cell 2
      have u3 : wr.cell? ⟨fb, 3, none⟩ = some (.int .i64 (st1 : Int)) := HLI.out.fb.cell 3
      clear hl hi0
      by_cases hlt : i ≤ nt
      · have hlt2 : (i : Int) ≤ (nt : Int) := by omega
        go_wp2_with fail
        refine (run_any A At n c nt ct L t start caps (i : Int) true wr HLI.out.rp HLI.out.rt).mono ?_
        rintro e w12 hrp
        rw [HTD.out.one i HI0.out (by rw [HTL.out]; exact hlt), HNO.out i HI0.out hlt] at hrp
        obtain ⟨cv, rfl, ho, hb⟩ := hrp
        generalize (oneAt ⟨insL L, start, caps⟩ t i).steps = sx at *
        have HL12 := Lib.hid (HLI.out.later hb)
        obtain ⟨X3, c3, rfl⟩ := own_shape ho
        clear ho hb q0 q1 q2 a0 a1 a2 a3 a4 a5 u0 u1 u2 u3
        generalize (capsOf ((0 : Int), (none : Option (List Int × Int)), sx)).length = k3 at *
        have HL13 := Lib.hid (HL12.out.later (W' := (w12.alloc (.cells #[.bool false, .slice X3 k3 c3, .int .i64 0, .int .i64 (sx : Int)] 38))) ((Below.refl _ _).alloc (Nat.le_refl _) _))
        have HXX := Lib.hid (Blk.new w12 38 [.bool false, .slice X3 k3 c3, .int .i64 0, .int .i64 (sx : Int)])
        simp only [Option.isSome_none, Option.elim_none]
        have u0 : (w12.alloc (.cells #[.bool false, .slice X3 k3 c3, .int .i64 0, .int .i64 (sx : Int)] 38)).cell? ⟨fb, 0, none⟩ = some (.bool false) := HL13.out.fb.cell 0
        have u1 : (w12.alloc (.cells #[.bool false, .slice X3 k3 c3, .int .i64 0, .int .i64 (sx : Int)] 38)).cell? ⟨fb, 1, none⟩ = some (.slice X1 l1.length c1) := HL13.out.fb.cell 1
        have u2 : (w12.alloc (.cells #[.bool false, .slice X3 k3 c3, .int .i64 0, .int .i64 (sx : Int)] 38)).cell? ⟨fb, 2, none⟩ = some (.int .i64 wh1) := HL13.out.fb.cell 2
        have u3 : (w12.alloc (.cells #[.bool false, .slice X3 k3 c3, .int .i64 0, .int .i64 (sx : Int)] 38)).cell? ⟨fb, 3, none⟩ = some (.int .i64 (st1 : Int)) := HL13.out.fb.cell 3
        have x0 : (w12.alloc (.cells #[.bool false, .slice X3 k3 c3, .int .i64 0, .int .i64 (sx : Int)] 38)).cell? ⟨w12.heap.size, 0, none⟩ = some (.bool false) := HXX.out.cell 0
        have hwi : IntKind.i64.wrap ((i : Int) + 1) = (i : Int) + 1 := wrI12 (by omega)
        go_wp2_with fail
        go_roundw
        case rel => exact ⟨i + 1, by have := HI0.out; omega, by omega, by go_num, HL13.out⟩
        case measure => simp [intOf]; omega
      · obtain rfl : i = nt + 1 := by omega
        have hgt : ¬ (((nt + 1 : Nat) : Int) ≤ (nt : Int)) := by omega
        go_wp2_with fail
        go_ret
        exact ⟨rfl, HLI.out.below⟩
  | true =>
    clear k8
    cases b2 with
    | false =>
      go_wp2_with fail
      go_ret
      exact ⟨rfl, HB11.out⟩
    | true =>
      go_wp2_with fail
      go_ret
      exact ⟨rfl, HB11.out⟩
end Go.Proofs.Ytclbbfkgdhmheaa
/- BitstateSteps: of every tree's program, or any program, every text and place: the bound of steps; a run finds what the anchored runs between find. Condition: what comes in holds at most 1048576 values (the second form). -/
namespace Go.Proofs.Ytclbbfkgdhmheaa.bitstateSteps
open Go.ChangeShapes Go.WideShapes Go.ChangeAt Go.RowKit

open Go.Proofs.Ytclbbfkgdhmheaa.Mach Go.Proofs.Ytclbbfkgdhmheaa.Tr in
theorem bst_any (u : Ta) (S : Nat → Prop) (A At : Option Addr) (n c nt ct : Nat) (L : List InV) (t : List Int) (start caps at_ : Int) (anch : Bool) (w : World) (h : RT w S u) (hS : ∀ b, S b → b < w.heap.size) (hP : ReadsP w w.heap.size A n c L) (hT : Reads w w.heap.size 1 At nt ct (t.map (Value.int .i64))) :
    Calls Try.prog 3 #[u.val, .agg #[.slice A n c, .int .i64 start, .int .i64 caps, .slice At nt ct, .int .i64 at_, .bool anch]] w fun e w' => e = .returned (.bool true) ∧ Below w.heap.size w w' := by
  cases u with
  | mk k r ra rc ast l sa sc mn mx z ix nm =>
  by_cases hc : cmpE (Ta.mk k r ra rc ast l sa sc mn mx z ix nm).tr = 0
  · exact bst_ok k r ra rc ast l sa sc mn mx z ix nm S A At n c nt ct L t start caps at_ anch w h hS hP hT hc
  · exact bst_bad k r ra rc ast l sa sc mn mx z ix nm S A At n c nt ct L t start caps at_ anch w h hS hP hT hc

set_option maxRecDepth 100000 in
theorem contract (H : Type) (enc : TypeId × Value → H) (W : World) (base : Nat) (args : Array Value) (ds gs : List (DataW H)) (before : List MemPlace)
    (hval : ∀ (j : Nat) t v, Try.f3.params[j]? = some t → args[j]? = some v → Value.okWide Try.prog W .any base t v)
    (hW : DataW.Whole enc Try.prog Try.f3.params.toList Rows.bitstateStepsSpec.vars false W args.toList ds gs before) (hk : Rows.uptoSmall H (ds ++ gs) = true) :
    Calls Try.prog 3 args W fun e W' => ∃ v, e = .returned v ∧ Rows.bitstateStepsSpec.post enc Try.prog Try.f3 false true false false W args v W' := by
  have hW' := hW
  obtain ⟨p, q, hA0, hV, rfl, hfz, hnd⟩ := hW
  have hA : DataW.TrodAll enc Try.prog W 0 (fun _ => true) true Try.f3.params.toList args.toList ds p := hA0
  rw [Try.params3] at hA hval
  obtain ⟨v0, v1, d0, d1, p0, p1, rfl, rfl, rfl, h0, h1⟩ := trodAll_two hA
  obtain ⟨rfl, rfl⟩ := trodVars_none hV
  clear hA0
  simp only [List.append_nil] at hW' hk
  have hs := small hk
  have hb0 := part_bulk (d := d0) (l := [d0, d1]) (by simp)
  obtain ⟨u, rfl, hu⟩ := open_tree (hval 0 25 v0 rfl rfl) h0 (by omega)
  obtain ⟨A, n, c, L, start, caps, At, nt, ct, t, at_, anch, rfl, hr, ht, _, _, _⟩ := open_ask (hval 1 31 v1 rfl rfl) h1
  have hlt0 : ∀ x ∈ p0, x.block < W.heap.size := fun x hx => hW'.lt x (by simp [hx])
  have hlt1 : ∀ x ∈ p1, x.block < W.heap.size := fun x hx => hW'.lt x (by simp [hx])
  refine (bst_any u (· < W.heap.size) A At n c nt ct L t start caps at_ anch W hu (fun b hb => hb) hr ht).mono fun e W' ⟨he, hb⟩ => ?_
  subst he
  exact ⟨_, rfl, post_of_below (pa := p0 ++ p1) (pv := []) hW' (fun _ _ _ => trodAll_cons_mk (shut_bool Try.underlying4 _) trodAll_mk0)
    (trodAll_mk2 (Below.trod laidOut (by kernel_rfl) (of_decide_eq_true (by kernel_rfl)) h0 hb hlt0) (Below.trod laidOut (by kernel_rfl) (of_decide_eq_true (by kernel_rfl)) h1 hb hlt1)) rfl (by simp) hb⟩

set_option maxRecDepth 100000 in
theorem lifted (os : Os) (started : os.Started) (H : Type) (enc : TypeId × Value → H) (F : Stop.Interp) :
    ReturnsInHanded {} Try.checked os 3 .any ((Rows.OpenSpec.upto Rows.bitstateStepsSpec).pre6 enc Try.prog Try.f3 Rows.bitstateStepsUptoRow.domain false) (((Rows.OpenSpec.upto Rows.bitstateStepsSpec).at F).post enc Try.prog Try.f3 false true false false) := by
  refine returnsInHanded_of_cond (C := Try.checked) (s := Rows.OpenSpec.upto Rows.bitstateStepsSpec) (k := Rows.uptoSmall) rfl own started (by kernel_rfl) Try.func3
    (OpenSpec.witness (enc := enc) (C := Try.checked) (s := Rows.OpenSpec.upto Rows.bitstateStepsSpec) (k := Rows.uptoSmall) rfl false ⟨#[], #[.agg #[.int .i64 0, .slice none 0 0, .int .i64 0, .slice none 0 0, .int .i64 0, .int .i64 0, .bool false, .int .i64 0, .string ⟨#[]⟩], .agg #[.slice none 0 0, .int .i64 0, .int .i64 0, .slice none 0 0, .int .i64 0, .bool false]], []⟩ 8 (by kernel_rfl) (by kernel_rfl) (by kernel_rfl)
      (x := ([.agg [.lit (.int .i64 0), .nil, .lit (.int .i64 0), .nil, .lit (.int .i64 0), .lit (.int .i64 0), .lit (.bool false), .lit (.int .i64 0), .lit (.string [])], .agg [.agg [.nil, .lit (.int .i64 0), .lit (.int .i64 0)], .nil, .lit (.int .i64 0), .lit (.bool false)]], [], [])) (by kernel_rfl) rfl (by kernel_rfl)) ?_
  intro W base args ds gs before hval hW _ hk _
  exact contract H enc W base args ds gs before hval hW hk

theorem over : Rows.bitstateStepsUptoRow.holds Try.pinned (Rows.OpenSpec.upto Rows.bitstateStepsSpec) :=
  OpenClaim.holds_of_cond 3 Try.f3 rfl rfl rfl rfl rfl rfl rfl ⟨rfl, rfl, rfl, rfl, rfl⟩ rfl rfl rfl rfl rfl (by kernel_rfl) Try.func3 (by kernel_rfl)
    (of_decide_eq_true (by kernel_rfl)) (by unfold Func.isWrapper; first | (rw [if_pos (by decide +kernel)]; kernel_rfl) | (rw [if_neg (by decide +kernel)]; exact ⟨rfl, rfl⟩))
    (fun os started H enc _ F => lifted os started H enc F)

theorem proved : Rows.BitstateStepsUptoSaid :=
  over
#print axioms proved
end Go.Proofs.Ytclbbfkgdhmheaa.bitstateSteps
