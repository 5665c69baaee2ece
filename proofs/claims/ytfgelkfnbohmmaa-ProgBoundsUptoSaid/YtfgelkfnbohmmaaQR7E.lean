/- heronref07.Reckon of any tree; Size. -/
import Derived.Test.YtfgelkfnbohmmaaQR7D
import Derived.Test.YtfgelkfnbohmmaaQRName
namespace Go.Proofs.Ytfgelkfnbohmmaa
open Go.RowKit Go.Proofs.Ytfgelkfnbohmmaa.Tr

set_option maxRecDepth 100000 in
set_option maxHeartbeats 1000000 in
theorem rk7_leaf (k : Int) (r : List (Int × Int)) (ra : Option Addr) (rc : Nat) (ast : Int) (l : List Ta) (sa : Option Addr) (sc : Nat) (mn mx : Int) (z : Bool) (ix : Int) (nm : ByteArray) (w : World) (h7 : k ≠ 7) (h6 : k ≠ 6) (h4 : k ≠ 4) (h5 : k ≠ 5) :
    Calls Try.prog 29 #[(Ta.mk k r ra rc ast l sa sc mn mx z ix nm).val] w fun e w' => e = .returned (sv7 ⟨k, 1, 0, 1⟩) ∧ Below w.heap.size w w' := by
  have b7 : (k == 7) = false := by simpa using h7
  have b6 : (k == 6) = false := by simpa using h6
  have b4 : (k == 4) = false := by simpa using h4
  have b5 : (k == 5) = false := by simpa using h5
  have HB2 := Lib.hid (two_below w (.cells #[.int .i64 k, .slice ra r.length rc, .int .i64 ast, .slice sa l.length sc, .int .i64 mn, .int .i64 mx, .bool z, .int .i64 ix, .string nm] 25) (.cells #[.int .i64 0, .int .i64 0, .int .i64 0, .int .i64 0] 69))
  have HN2 := Lib.hid ((Blk.new w 25 [.int .i64 k, .slice ra r.length rc, .int .i64 ast, .slice sa l.length sc, .int .i64 mn, .int .i64 mx, .bool z, .int .i64 ix, .string nm]).alloc (.cells #[.int .i64 0, .int .i64 0, .int .i64 0, .int .i64 0] 69))
  have d0 : ((w.alloc (.cells #[.int .i64 k, .slice ra r.length rc, .int .i64 ast, .slice sa l.length sc, .int .i64 mn, .int .i64 mx, .bool z, .int .i64 ix, .string nm] 25)).alloc (.cells #[.int .i64 0, .int .i64 0, .int .i64 0, .int .i64 0] 69)).cell? ⟨w.heap.size, 0, none⟩ = some (.int .i64 k) := HN2.out.cell 0
  have d1 : ((w.alloc (.cells #[.int .i64 k, .slice ra r.length rc, .int .i64 ast, .slice sa l.length sc, .int .i64 mn, .int .i64 mx, .bool z, .int .i64 ix, .string nm] 25)).alloc (.cells #[.int .i64 0, .int .i64 0, .int .i64 0, .int .i64 0] 69)).cell? ⟨w.heap.size, 1, none⟩ = some (.slice ra r.length rc) := HN2.out.cell 1
  have d2 : ((w.alloc (.cells #[.int .i64 k, .slice ra r.length rc, .int .i64 ast, .slice sa l.length sc, .int .i64 mn, .int .i64 mx, .bool z, .int .i64 ix, .string nm] 25)).alloc (.cells #[.int .i64 0, .int .i64 0, .int .i64 0, .int .i64 0] 69)).cell? ⟨w.heap.size, 2, none⟩ = some (.int .i64 ast) := HN2.out.cell 2
  have d3 : ((w.alloc (.cells #[.int .i64 k, .slice ra r.length rc, .int .i64 ast, .slice sa l.length sc, .int .i64 mn, .int .i64 mx, .bool z, .int .i64 ix, .string nm] 25)).alloc (.cells #[.int .i64 0, .int .i64 0, .int .i64 0, .int .i64 0] 69)).cell? ⟨w.heap.size, 3, none⟩ = some (.slice sa l.length sc) := HN2.out.cell 3
  have d4 : ((w.alloc (.cells #[.int .i64 k, .slice ra r.length rc, .int .i64 ast, .slice sa l.length sc, .int .i64 mn, .int .i64 mx, .bool z, .int .i64 ix, .string nm] 25)).alloc (.cells #[.int .i64 0, .int .i64 0, .int .i64 0, .int .i64 0] 69)).cell? ⟨w.heap.size, 4, none⟩ = some (.int .i64 mn) := HN2.out.cell 4
  have d5 : ((w.alloc (.cells #[.int .i64 k, .slice ra r.length rc, .int .i64 ast, .slice sa l.length sc, .int .i64 mn, .int .i64 mx, .bool z, .int .i64 ix, .string nm] 25)).alloc (.cells #[.int .i64 0, .int .i64 0, .int .i64 0, .int .i64 0] 69)).cell? ⟨w.heap.size, 5, none⟩ = some (.int .i64 mx) := HN2.out.cell 5
  have d6 : ((w.alloc (.cells #[.int .i64 k, .slice ra r.length rc, .int .i64 ast, .slice sa l.length sc, .int .i64 mn, .int .i64 mx, .bool z, .int .i64 ix, .string nm] 25)).alloc (.cells #[.int .i64 0, .int .i64 0, .int .i64 0, .int .i64 0] 69)).cell? ⟨w.heap.size, 6, none⟩ = some (.bool z) := HN2.out.cell 6
  have d7 : ((w.alloc (.cells #[.int .i64 k, .slice ra r.length rc, .int .i64 ast, .slice sa l.length sc, .int .i64 mn, .int .i64 mx, .bool z, .int .i64 ix, .string nm] 25)).alloc (.cells #[.int .i64 0, .int .i64 0, .int .i64 0, .int .i64 0] 69)).cell? ⟨w.heap.size, 7, none⟩ = some (.int .i64 ix) := HN2.out.cell 7
  have d8 : ((w.alloc (.cells #[.int .i64 k, .slice ra r.length rc, .int .i64 ast, .slice sa l.length sc, .int .i64 mn, .int .i64 mx, .bool z, .int .i64 ix, .string nm] 25)).alloc (.cells #[.int .i64 0, .int .i64 0, .int .i64 0, .int .i64 0] 69)).cell? ⟨w.heap.size, 8, none⟩ = some (.string nm) := HN2.out.cell 8
  clear h7 h6 h4 h5
  simp only [Ta.val, Ta.vals, sv7, smV7]
  go_enter Try.func29, Try.ntmps29
  go_wp2_with fail
  refine bodyPost_ret (sum_ret rfl _ _ (w.heap.size + 1) _ _ _ _ rfl (two_blk w _ _ [_, _, _, _])) rfl ?_
  exact ⟨rfl, two_below w _ _⟩
theorem rk7_any : ∀ t : Ta, RK7 t := by
  intro t
  induction t using Ta.ind with
  | h t ih =>
    cases t with
    | mk k r ra rc ast l sa sc mn mx z ix nm =>
    intro S w h hS hal hdp
    have hih : ∀ u ∈ l, RK7 u := ih
    have hlen := trs_length l
    have hsub : ∀ s ∈ trs l, allB s = true ∧ deep s ≤ 10000 := fun s hs => by
      simp only [Ta.tr] at hal hdp
      rw [deep_subs] at hdp
      exact ⟨((allB_iff _).1 hal).2 s hs, by have := deeps_mem (l := trs l) hs; simp only [Tr.subs] at hdp; omega⟩
    simp only [Ta.tr] at hal ⊢
    clear ih hdp
    rw [sumS]
    by_cases k7 : k = 7
    · rw [if_pos k7]
      have hl1 : l.length = 1 := by
        subst k7
        generalize trs l = L at *
        cases kinds hal with
        | group x i s hx h0 hb hm => simpa using hlen.symm
      subst k7
      exact rk7_group r ra rc ast l sa sc mn mx z ix nm hih S w h hS hl1 hsub
    rw [if_neg k7]
    by_cases k6 : k = 6
    · rw [if_pos k6]
      have hp : l.length = 1 ∧ (0 ≤ mn ∧ mn ≤ 1000) ∧ (mx = -1 ∨ (mn ≤ mx ∧ mx ≤ 1000)) := by
        subst k6
        generalize trs l = L at *
        cases kinds hal with
        | rep x n m z hx h0 h1 hm => exact ⟨by simpa using hlen.symm, ⟨h0, h1⟩, hm⟩
      subst k6
      exact rk7_rep r ra rc ast l sa sc mn mx z ix nm hih S w h hS hp.1 hsub hp.2.1 hp.2.2
    rw [if_neg k6]
    by_cases k4 : k = 4
    · rw [if_pos k4]
      subst k4
      exact rk7_cat r ra rc ast l sa sc mn mx z ix nm hih S w h hS hsub
    rw [if_neg k4]
    by_cases k5 : k = 5
    · rw [if_pos k5]
      subst k5
      exact rk7_alt r ra rc ast l sa sc mn mx z ix nm hih S w h hS hsub
    rw [if_neg k5]
    exact rk7_leaf k r ra rc ast l sa sc mn mx z ix nm w k7 k6 k4 k5
def size7 (t : Tr.Tr) : Int := if soundB t = true then min (sumS t).nd 200001 else 0
end Go.Proofs.Ytfgelkfnbohmmaa
/- heronref07.Size. -/
namespace Go.Proofs.Ytfgelkfnbohmmaa
open Go.RowKit Go.Proofs.Ytfgelkfnbohmmaa.Tr

set_option maxRecDepth 100000 in
set_option maxHeartbeats 1000000 in
theorem size7_any (t : Ta) (S : Nat → Prop) (w : World) (h : RT w S t) (hS : ∀ b, S b → b < w.heap.size) :
    Calls Try.prog 12 #[t.val] w fun e w' => e = .returned (.int .i64 (size7 t.tr)) ∧ Below w.heap.size w w' := by
  cases t with
  | mk k r ra rc ast l sa sc mn mx z ix nm =>
  have hb0 : Below w.heap.size w (w.alloc (.cells #[.int .i64 k, .slice ra r.length rc, .int .i64 ast, .slice sa l.length sc, .int .i64 mn, .int .i64 mx, .bool z, .int .i64 ix, .string nm] 25)) := (Below.refl _ _).alloc (Nat.le_refl _) _
  have HX := Lib.hid (Blk.new w 25 [.int .i64 k, .slice ra r.length rc, .int .i64 ast, .slice sa l.length sc, .int .i64 mn, .int .i64 mx, .bool z, .int .i64 ix, .string nm])
  have HT := Lib.hid (h.below hS hb0)
  have HTW := Lib.hid h
  have HB := Lib.hid hb0
  have HSS := Lib.hid hS
  have HSO := Lib.hid (rSound_any (Ta.mk k r ra rc ast l sa sc mn mx z ix nm) S (w.alloc (.cells #[.int .i64 k, .slice ra r.length rc, .int .i64 ast, .slice sa l.length sc, .int .i64 mn, .int .i64 mx, .bool z, .int .i64 ix, .string nm] 25)) HT.out (fun b hb => Nat.lt_of_lt_of_le (hS b hb) hb0.size))
  have hso : sv (Ta.mk k r ra rc ast l sa sc mn mx z ix nm).tr = .int .i64 (if soundB (Ta.mk k r ra rc ast l sa sc mn mx z ix nm).tr = true then 0 else 50) := rfl
  have hz : size7 (Ta.mk k r ra rc ast l sa sc mn mx z ix nm).tr = if soundB (Ta.mk k r ra rc ast l sa sc mn mx z ix nm).tr = true then min (sumS (Ta.mk k r ra rc ast l sa sc mn mx z ix nm).tr).nd 200001 else 0 := rfl
  rw [hso] at HSO
  have d0 : (w.alloc (.cells #[.int .i64 k, .slice ra r.length rc, .int .i64 ast, .slice sa l.length sc, .int .i64 mn, .int .i64 mx, .bool z, .int .i64 ix, .string nm] 25)).cell? ⟨w.heap.size, 0, none⟩ = some (.int .i64 k) := HX.out.cell 0
  have d1 : (w.alloc (.cells #[.int .i64 k, .slice ra r.length rc, .int .i64 ast, .slice sa l.length sc, .int .i64 mn, .int .i64 mx, .bool z, .int .i64 ix, .string nm] 25)).cell? ⟨w.heap.size, 1, none⟩ = some (.slice ra r.length rc) := HX.out.cell 1
  have d2 : (w.alloc (.cells #[.int .i64 k, .slice ra r.length rc, .int .i64 ast, .slice sa l.length sc, .int .i64 mn, .int .i64 mx, .bool z, .int .i64 ix, .string nm] 25)).cell? ⟨w.heap.size, 2, none⟩ = some (.int .i64 ast) := HX.out.cell 2
  have d3 : (w.alloc (.cells #[.int .i64 k, .slice ra r.length rc, .int .i64 ast, .slice sa l.length sc, .int .i64 mn, .int .i64 mx, .bool z, .int .i64 ix, .string nm] 25)).cell? ⟨w.heap.size, 3, none⟩ = some (.slice sa l.length sc) := HX.out.cell 3
  have d4 : (w.alloc (.cells #[.int .i64 k, .slice ra r.length rc, .int .i64 ast, .slice sa l.length sc, .int .i64 mn, .int .i64 mx, .bool z, .int .i64 ix, .string nm] 25)).cell? ⟨w.heap.size, 4, none⟩ = some (.int .i64 mn) := HX.out.cell 4
  have d5 : (w.alloc (.cells #[.int .i64 k, .slice ra r.length rc, .int .i64 ast, .slice sa l.length sc, .int .i64 mn, .int .i64 mx, .bool z, .int .i64 ix, .string nm] 25)).cell? ⟨w.heap.size, 5, none⟩ = some (.int .i64 mx) := HX.out.cell 5
  have d6 : (w.alloc (.cells #[.int .i64 k, .slice ra r.length rc, .int .i64 ast, .slice sa l.length sc, .int .i64 mn, .int .i64 mx, .bool z, .int .i64 ix, .string nm] 25)).cell? ⟨w.heap.size, 6, none⟩ = some (.bool z) := HX.out.cell 6
  have d7 : (w.alloc (.cells #[.int .i64 k, .slice ra r.length rc, .int .i64 ast, .slice sa l.length sc, .int .i64 mn, .int .i64 mx, .bool z, .int .i64 ix, .string nm] 25)).cell? ⟨w.heap.size, 7, none⟩ = some (.int .i64 ix) := HX.out.cell 7
  have d8 : (w.alloc (.cells #[.int .i64 k, .slice ra r.length rc, .int .i64 ast, .slice sa l.length sc, .int .i64 mn, .int .i64 mx, .bool z, .int .i64 ix, .string nm] 25)).cell? ⟨w.heap.size, 8, none⟩ = some (.string nm) := HX.out.cell 8
  clear h hS hb0 hso
  cases hsb : soundB (Ta.mk k r ra rc ast l sa sc mn mx z ix nm).tr with
  | false =>
    rw [hsb] at HSO hz
    rw [hz]
    clear hz hsb
    simp only [Ta.val, Ta.vals, Bool.false_eq_true, if_false] at HSO ⊢
    go_enter Try.func12, Try.ntmps12
    go_wp2_with fail
    refine HSO.out.mono ?_
    rintro e w2 ⟨rfl, hb2⟩
    have HB2 := Lib.hid (HB.out.trans (hb2.mono HB.out.size))
    clear hb2
    simp only []
    go_wp2_with fail
    go_ret
    exact ⟨rfl, HB2.out⟩
  | true =>
    rw [hsb] at HSO hz
    rw [hz]
    obtain ⟨hal, hdp, _⟩ := sound_all hsb
    have HRK := Lib.hid (fun (W : World) (hW : Below w.heap.size w W) => rk7_any (Ta.mk k r ra rc ast l sa sc mn mx z ix nm) S W (HTW.out.below HSS.out hW) (fun b hb => Nat.lt_of_lt_of_le (HSS.out b hb) hW.size) hal hdp)
    obtain ⟨x, hx⟩ : ∃ q, q = sumS (Ta.mk k r ra rc ast l sa sc mn mx z ix nm).tr := ⟨_, rfl⟩
    rw [← hx] at HRK ⊢
    clear hz hsb hx hal hdp
    simp only [Ta.val, Ta.vals, if_true, sv7, smV7] at HSO HRK ⊢
    go_enter Try.func12, Try.ntmps12
    go_wp2_with fail
    generalize (w.alloc (.cells #[.int .i64 k, .slice ra r.length rc, .int .i64 ast, .slice sa l.length sc, .int .i64 mn, .int .i64 mx, .bool z, .int .i64 ix, .string nm] 25)) = w1 at *
    refine HSO.out.mono ?_
    rintro e w2 ⟨rfl, hb2⟩
    have HB2 := Lib.hid (HB.out.trans (hb2.mono HB.out.size))
    have HX2 := Lib.hid (HX.out.below hb2 HX.out.lt)
    clear hb2 d0 d1 d2 d3 d4 d5 d6 d7 d8
    have d0 : w2.cell? ⟨w.heap.size, 0, none⟩ = some (.int .i64 k) := HX2.out.cell 0
    have d1 : w2.cell? ⟨w.heap.size, 1, none⟩ = some (.slice ra r.length rc) := HX2.out.cell 1
    have d2 : w2.cell? ⟨w.heap.size, 2, none⟩ = some (.int .i64 ast) := HX2.out.cell 2
    have d3 : w2.cell? ⟨w.heap.size, 3, none⟩ = some (.slice sa l.length sc) := HX2.out.cell 3
    have d4 : w2.cell? ⟨w.heap.size, 4, none⟩ = some (.int .i64 mn) := HX2.out.cell 4
    have d5 : w2.cell? ⟨w.heap.size, 5, none⟩ = some (.int .i64 mx) := HX2.out.cell 5
    have d6 : w2.cell? ⟨w.heap.size, 6, none⟩ = some (.bool z) := HX2.out.cell 6
    have d7 : w2.cell? ⟨w.heap.size, 7, none⟩ = some (.int .i64 ix) := HX2.out.cell 7
    have d8 : w2.cell? ⟨w.heap.size, 8, none⟩ = some (.string nm) := HX2.out.cell 8
    simp only []
    go_wp2_with fail
    refine (HRK.out w2 HB2.out).mono ?_
    rintro e w3 ⟨rfl, hb3⟩
    have HB3 := Lib.hid ((HB2.out.trans (hb3.mono HB2.out.size)).trans ((((Below.refl w3.heap.size w3).alloc (Nat.le_refl _) (.cells #[.int .i64 x.kd, .int .i64 x.nd, .int .i64 x.sb, .int .i64 x.dp] 69)).mono (HB2.out.trans (hb3.mono HB2.out.size)).size)))
    clear hb3
    simp only []
    go_wp2_with fail
    all_goals
      go_ret
      exact ⟨ret_int (by omega), HB3.out⟩
end Go.Proofs.Ytfgelkfnbohmmaa
