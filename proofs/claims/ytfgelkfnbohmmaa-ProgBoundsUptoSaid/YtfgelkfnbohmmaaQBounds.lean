/- The law ProgBounds. -/
import Derived.Test.YtfgelkfnbohmmaaQAwake9
import Derived.Test.YtfgelkfnbohmmaaQR7E
import Derived.Test.YtfgelkfnbohmmaaQRefMay
import Derived.Handy
import Derived.Test.YtfgelkfnbohmmaaQNOpen
namespace Go.Proofs.Ytfgelkfnbohmmaa
open Go.RowKit Go.Proofs.Ytfgelkfnbohmmaa.Mach Go.Proofs.Ytfgelkfnbohmmaa.Tr

theorem cmp_ways (t : Tr.Tr) : cmpE t = 50 ∨ cmpE t = 3 ∨ (cmpE t = 0 ∧ errV t = 0) := by
  unfold cmpE
  by_cases h : errV t ≠ 0
  · rw [if_pos h]
    unfold errV at h ⊢
    by_cases hs : soundB t = true
    · by_cases hf : fitsB t = true
      · exact absurd (by rw [if_pos hs, if_pos hf]) h
      · rw [if_pos hs, if_neg hf]; exact .inr (.inl rfl)
    · rw [if_neg hs]; exact .inl rfl
  · have h0 : errV t = 0 := by simpa using h
    rw [if_neg h]
    split
    · exact .inr (.inl rfl)
    · exact .inr (.inr ⟨rfl, h0⟩)
/-- What Compile gives may be, and is no longer than that. -/
theorem cmp_bounds {t : Tr.Tr} (h : errV t = 0) (hl : (progL (simpleS t)).length ≤ 20000) : chkE ⟨progL (simpleS t), 0, 2 + 2 * greatest t⟩ = 0 ∧ ((progL (simpleS t)).length : Int) ≤ 3 * size7 t + 3 ∧ 0 ≤ size7 t ∧ size7 t ≤ 200001 := by
  obtain ⟨-, hs⟩ := errV_zero h
  have hal := (sound_all hs).1
  have hsz := errV_size h
  have hg := simple_good t hal
  have hle := prog_le hg.1
  have hcs := (sum_form t hal).nd
  have hK : K3 = 300000 := rfl
  rw [hK] at hcs
  have hz : size7 t = min (sumS t).nd 200001 := by unfold size7; rw [hs]; rfl
  refine ⟨by unfold chkE; rw [prog_may hal hl]; rfl, ?_, ?_, ?_⟩
  · rw [hz]; omega
  · rw [hz]; omega
  · rw [hz]; omega
set_option maxRecDepth 100000 in
set_option maxHeartbeats 4000000 in
theorem bounds_any (t : Ta) (S : Nat → Prop) (w : World) (h : RT w S t) (hS : ∀ b, S b → b < w.heap.size) :
    Calls Try.prog 3 #[t.val] w fun e w' => e = .returned (.bool true) ∧ Below w.heap.size w w' := by
  cases t with
  | mk k r ra rc ast l sa sc mn mx z ix nm =>
  have hb0 : Below w.heap.size w (w.alloc (.cells #[.int .i64 k, .slice ra r.length rc, .int .i64 ast, .slice sa l.length sc, .int .i64 mn, .int .i64 mx, .bool z, .int .i64 ix, .string nm] 25)) := (Below.refl _ _).alloc (Nat.le_refl _) _
  have HX0 := Lib.hid (Blk.new w 25 [.int .i64 k, .slice ra r.length rc, .int .i64 ast, .slice sa l.length sc, .int .i64 mn, .int .i64 mx, .bool z, .int .i64 ix, .string nm])
  have HT0 := Lib.hid (h.below hS hb0)
  have HB0 := Lib.hid hb0
  have HSS := Lib.hid hS
  obtain ⟨ev, hev⟩ : ∃ q, q = cmpE (Ta.mk k r ra rc ast l sa sc mn mx z ix nm).tr := ⟨_, rfl⟩
  have HEV := Lib.hid hev
  have hw := cmp_ways (Ta.mk k r ra rc ast l sa sc mn mx z ix nm).tr
  rw [← hev] at hw
  have HWY := Lib.hid hw
  have HCO := Lib.hid (fun u hu hs => compile_any (Ta.mk k r ra rc ast l sa sc mn mx z ix nm) S u hu hs)
  have HZ7 := Lib.hid (fun u hu hs => size7_any (Ta.mk k r ra rc ast l sa sc mn mx z ix nm) S u hu hs)
  clear h hS hb0 hw hev
  simp only [Ta.val, Ta.vals] at HCO HZ7 ⊢
  go_enter Try.func3, Try.ntmps3
  go_wp2_with fail
  generalize (w.alloc (.cells #[.int .i64 k, .slice ra r.length rc, .int .i64 ast, .slice sa l.length sc, .int .i64 mn, .int .i64 mx, .bool z, .int .i64 ix, .string nm] 25)) = w0 at *
  refine (deep_any (Ta.mk k r ra rc ast l sa sc mn mx z ix nm) S w0 HT0.out (fun b hb => Nat.lt_of_lt_of_le (HSS.out b hb) HB0.out.size)).mono ?_
  rintro e w1 ⟨rfl, hb⟩
  have HX1 := Lib.hid (HX0.out.below hb HX0.out.lt)
  have HT1 := Lib.hid (HT0.out.below HSS.out (hb.mono HB0.out.size))
  have HB1 := Lib.hid (HB0.out.trans (hb.mono HB0.out.size))
  have HS1 := Lib.hid (fun b (hb : S b) => Nat.lt_of_lt_of_le (HSS.out b hb) HB1.out.size)
  clear hb
  obtain ⟨dp, hdp⟩ : ∃ q, q = decide (4194304 < size (Ta.mk k r ra rc ast l sa sc mn mx z ix nm).tr) := ⟨_, rfl⟩
  rw [← hdp]
  clear hdp
  simp only []
  cases dp with
  | true =>
    go_wp2_with fail
    go_ret
    exact ⟨rfl, HB1.out⟩
  | false =>
    have t0 : w1.cell? ⟨w.heap.size, 0, none⟩ = some (.int .i64 k) := HX1.out.cell 0
    have t1 : w1.cell? ⟨w.heap.size, 1, none⟩ = some (.slice ra r.length rc) := HX1.out.cell 1
    have t2 : w1.cell? ⟨w.heap.size, 2, none⟩ = some (.int .i64 ast) := HX1.out.cell 2
    have t3 : w1.cell? ⟨w.heap.size, 3, none⟩ = some (.slice sa l.length sc) := HX1.out.cell 3
    have t4 : w1.cell? ⟨w.heap.size, 4, none⟩ = some (.int .i64 mn) := HX1.out.cell 4
    have t5 : w1.cell? ⟨w.heap.size, 5, none⟩ = some (.int .i64 mx) := HX1.out.cell 5
    have t6 : w1.cell? ⟨w.heap.size, 6, none⟩ = some (.bool z) := HX1.out.cell 6
    have t7 : w1.cell? ⟨w.heap.size, 7, none⟩ = some (.int .i64 ix) := HX1.out.cell 7
    have t8 : w1.cell? ⟨w.heap.size, 8, none⟩ = some (.string nm) := HX1.out.cell 8
    go_wp2_with fail
    refine (heavy_any (Ta.mk k r ra rc ast l sa sc mn mx z ix nm) S w1 HT1.out HS1.out).mono ?_
    rintro e w2 ⟨⟨hv, rfl⟩, hb⟩
    clear t0 t1 t2 t3 t4 t5 t6 t7 t8
    have HX2 := Lib.hid (HX1.out.below hb HX1.out.lt)
    have HT2 := Lib.hid (HT1.out.below HSS.out (hb.mono HB1.out.size))
    have HB2 := Lib.hid (HB1.out.trans (hb.mono HB1.out.size))
    have HS2 := Lib.hid (fun b (hb : S b) => Nat.lt_of_lt_of_le (HSS.out b hb) HB2.out.size)
    clear hb
    simp only []
    cases hv with
    | true =>
      go_wp2_with fail
      go_ret
      exact ⟨rfl, HB2.out⟩
    | false =>
      go_wp2_with fail
      refine (awake9_any w2).mono ?_
      rintro e w3 ⟨rfl, hb⟩
      have HX3 := Lib.hid (HX2.out.below hb HX2.out.lt)
      have HT3 := Lib.hid (HT2.out.below HSS.out (hb.mono HB2.out.size))
      have HB3 := Lib.hid (HB2.out.trans (hb.mono HB2.out.size))
      have HS3 := Lib.hid (fun b (hb : S b) => Nat.lt_of_lt_of_le (HSS.out b hb) HB3.out.size)
      clear hb
      have t0 : w3.cell? ⟨w.heap.size, 0, none⟩ = some (.int .i64 k) := HX3.out.cell 0
      have t1 : w3.cell? ⟨w.heap.size, 1, none⟩ = some (.slice ra r.length rc) := HX3.out.cell 1
      have t2 : w3.cell? ⟨w.heap.size, 2, none⟩ = some (.int .i64 ast) := HX3.out.cell 2
      have t3 : w3.cell? ⟨w.heap.size, 3, none⟩ = some (.slice sa l.length sc) := HX3.out.cell 3
      have t4 : w3.cell? ⟨w.heap.size, 4, none⟩ = some (.int .i64 mn) := HX3.out.cell 4
      have t5 : w3.cell? ⟨w.heap.size, 5, none⟩ = some (.int .i64 mx) := HX3.out.cell 5
      have t6 : w3.cell? ⟨w.heap.size, 6, none⟩ = some (.bool z) := HX3.out.cell 6
      have t7 : w3.cell? ⟨w.heap.size, 7, none⟩ = some (.int .i64 ix) := HX3.out.cell 7
      have t8 : w3.cell? ⟨w.heap.size, 8, none⟩ = some (.string nm) := HX3.out.cell 8
      simp only []
      go_wp2_with fail
      refine (HCO.out w3 HT3.out HS3.out).mono ?_
      rintro e w4 ⟨⟨A, n, c, L, caps, rfl, hln, hra, hel, hok⟩, hb⟩
      clear t0 t1 t2 t3 t4 t5 t6 t7 t8
      have HX4 := Lib.hid (HX3.out.below hb HX3.out.lt)
      have HT4 := Lib.hid (HT3.out.below HSS.out (hb.mono HB3.out.size))
      have HB4 := Lib.hid (HB3.out.trans (hb.mono HB3.out.size))
      have HS4 := Lib.hid (fun b (hb : S b) => Nat.lt_of_lt_of_le (HSS.out b hb) HB4.out.size)
      clear hb
      rw [← HEV.out] at hok ⊢
      have hbp : Below w4.heap.size w4 (w4.alloc (.cells #[.slice A n c, .int .i64 0, .int .i64 caps] 30)) := (Below.refl _ _).alloc (Nat.le_refl _) _
      have HP5 := Lib.hid ((readsP_of hra hel).below hbp)
      have HPC := Lib.hid (Blk.new w4 30 [.slice A n c, .int .i64 0, .int .i64 caps])
      have HX5 := Lib.hid (HX4.out.below hbp HX4.out.lt)
      have HT5 := Lib.hid (HT4.out.below HSS.out (hbp.mono HB4.out.size))
      have HB5 := Lib.hid (HB4.out.trans (hbp.mono HB4.out.size))
      have HS5 := Lib.hid (fun b (hb : S b) => Nat.lt_of_lt_of_le (HSS.out b hb) HB5.out.size)
      have HOK := Lib.hid hok
      have HLN := Lib.hid hln
      have hsz5 := hbp.size
      clear hok hra hel hbp hln
      simp only []
      rcases HWY.out with e50 | e3 | ⟨e0, eE⟩
      · have hEV : ev = 50 := e50
        clear HEV HWY HOK
        subst hEV
        go_wp2_with fail
        go_ret
        exact ⟨rfl, HB5.out⟩
      · have hEV : ev = 3 := e3
        clear HEV HWY HOK
        subst hEV
        go_wp2_with fail
        go_ret
        exact ⟨rfl, HB5.out⟩
      · obtain ⟨hI, hcp, hl2⟩ := HOK.out e0
        have hpl : (progL (simpleS (Ta.mk k r ra rc ast l sa sc mn mx z ix nm).tr)).length ≤ 20000 := by rw [← hI, insL_len]; exact hl2
        have hcb := cmp_bounds eE hpl
        rw [← hI] at hcb
        obtain ⟨hck, hle, hz0, hz1⟩ := hcb
        rw [← hcp] at hck
        have hlen : ((insL L).length : Int) = (n : Int) := by rw [insL_len, HLN.out]
        rw [hlen] at hle
        obtain ⟨zz, hzz⟩ : ∃ q, q = size7 (Ta.mk k r ra rc ast l sa sc mn mx z ix nm).tr := ⟨_, rfl⟩
        rw [← hzz] at hle hz0 hz1 HZ7
        have HCK := Lib.hid hck
        have hHP := HP5.out.more hsz5
        have hrc := refCheck_any A n c L 0 caps (w4.alloc (.cells #[.slice A n c, .int .i64 0, .int .i64 caps] 30)) hHP
        rw [hck] at hrc
        have HRC := Lib.hid hrc
        have HLE := Lib.hid hle
        have hle2 : (n : Int) ≤ 3 * zz + 3 := hle
        clear HEV HWY HOK hI hl2 hpl hzz hrc hHP hlen hle hcp eE hck
        subst e0
        go_wp2_with fail
        generalize (w4.alloc (.cells #[.slice A n c, .int .i64 0, .int .i64 caps] 30)) = w5 at *
        refine HRC.out.mono ?_
        rintro e w6 ⟨rfl, hb⟩
        have hPC6 := HPC.out.below hb HPC.out.lt
        have HPC6 := Lib.hid hPC6
        have hHP6 := ((HP5.out.more hsz5).below hb).more hb.size
        have HP6 := Lib.hid hHP6
        have HX6 := Lib.hid (HX5.out.below hb HX5.out.lt)
        have HT6 := Lib.hid (HT5.out.below HSS.out (hb.mono HB5.out.size))
        have HB6 := Lib.hid (HB5.out.trans (hb.mono HB5.out.size))
        have HS6 := Lib.hid (fun b (hb : S b) => Nat.lt_of_lt_of_le (HSS.out b hb) HB6.out.size)
        clear hb
        have p0 : w6.cell? ⟨w4.heap.size, 0, none⟩ = some (.slice A n c) := HPC6.out.cell 0
        have p1 : w6.cell? ⟨w4.heap.size, 1, none⟩ = some (.int .i64 0) := HPC6.out.cell 1
        have p2 : w6.cell? ⟨w4.heap.size, 2, none⟩ = some (.int .i64 caps) := HPC6.out.cell 2
        have hrc := check_any A n c L 0 caps w6 hHP6
        rw [HCK.out] at hrc
        have HRC6 := Lib.hid hrc
        clear hPC6 hHP6 hrc HRC
        simp only []
        go_wp2_with fail
        refine HRC6.out.mono ?_
        rintro e w7 ⟨rfl, hb⟩
        have HPC7 := Lib.hid (HPC6.out.below hb HPC6.out.lt)
        have HX7 := Lib.hid (HX6.out.below hb HX6.out.lt)
        have HT7 := Lib.hid (HT6.out.below HSS.out (hb.mono HB6.out.size))
        have HB7 := Lib.hid (HB6.out.trans (hb.mono HB6.out.size))
        have HS7 := Lib.hid (fun b (hb : S b) => Nat.lt_of_lt_of_le (HSS.out b hb) HB7.out.size)
        clear hb
        clear p0 p1 p2
        have t0 : w7.cell? ⟨w.heap.size, 0, none⟩ = some (.int .i64 k) := HX7.out.cell 0
        have t1 : w7.cell? ⟨w.heap.size, 1, none⟩ = some (.slice ra r.length rc) := HX7.out.cell 1
        have t2 : w7.cell? ⟨w.heap.size, 2, none⟩ = some (.int .i64 ast) := HX7.out.cell 2
        have t3 : w7.cell? ⟨w.heap.size, 3, none⟩ = some (.slice sa l.length sc) := HX7.out.cell 3
        have t4 : w7.cell? ⟨w.heap.size, 4, none⟩ = some (.int .i64 mn) := HX7.out.cell 4
        have t5 : w7.cell? ⟨w.heap.size, 5, none⟩ = some (.int .i64 mx) := HX7.out.cell 5
        have t6 : w7.cell? ⟨w.heap.size, 6, none⟩ = some (.bool z) := HX7.out.cell 6
        have t7 : w7.cell? ⟨w.heap.size, 7, none⟩ = some (.int .i64 ix) := HX7.out.cell 7
        have t8 : w7.cell? ⟨w.heap.size, 8, none⟩ = some (.string nm) := HX7.out.cell 8
        simp only []
        go_wp2_with fail
        refine (HZ7.out w7 HT7.out HS7.out).mono ?_
        rintro e w8 ⟨rfl, hb⟩
        have HPC8 := Lib.hid (HPC7.out.below hb HPC7.out.lt)
        clear t0 t1 t2 t3 t4 t5 t6 t7 t8
        have HX8 := Lib.hid (HX7.out.below hb HX7.out.lt)
        have HT8 := Lib.hid (HT7.out.below HSS.out (hb.mono HB7.out.size))
        have HB8 := Lib.hid (HB7.out.trans (hb.mono HB7.out.size))
        have HS8 := Lib.hid (fun b (hb : S b) => Nat.lt_of_lt_of_le (HSS.out b hb) HB8.out.size)
        clear hb
        have p0 : w8.cell? ⟨w4.heap.size, 0, none⟩ = some (.slice A n c) := HPC8.out.cell 0
        have hw1 : IntKind.i64.wrap (3 * zz) = 3 * zz := wrI7 (by omega)
        have hw2 : IntKind.i64.wrap (3 * zz + 3) = 3 * zz + 3 := wrI7 (by omega)
        simp only []
        go_wp2_with fail
        go_ret
        exact ⟨rfl, HB8.out⟩
end Go.Proofs.Ytfgelkfnbohmmaa
/- ProgBounds: of every tree: what Compile answers may be, and is no longer than three times what Size says, and three; or the error is one of the two. Condition: what comes in holds at most 1048576 values (the second form). -/
namespace Go.Proofs.Ytfgelkfnbohmmaa.progBounds
open Go.ChangeShapes Go.WideShapes Go.ChangeAt Go.RowKit

set_option maxRecDepth 100000 in
theorem contract (H : Type) (enc : TypeId × Value → H) (W : World) (base : Nat) (args : Array Value) (ds gs : List (DataW H)) (before : List MemPlace)
    (hval : ∀ (j : Nat) t v, Try.f3.params[j]? = some t → args[j]? = some v → Value.okWide Try.prog W .any base t v)
    (hW : DataW.Whole enc Try.prog Try.f3.params.toList Rows.progBoundsSpec.vars false W args.toList ds gs before) (hk : Rows.uptoSmall H (ds ++ gs) = true) :
    Calls Try.prog 3 args W fun e W' => ∃ v, e = .returned v ∧ Rows.progBoundsSpec.post enc Try.prog Try.f3 false true false false W args v W' := by
  have hW' := hW
  obtain ⟨p, q, hA0, hV, rfl, hfz, hnd⟩ := hW
  have hA : DataW.TrodAll enc Try.prog W 0 (fun _ => true) true Try.f3.params.toList args.toList ds p := hA0
  rw [Try.params3] at hA hval
  obtain ⟨v0, d0, rfl, rfl, h0⟩ := trodAll_one hA
  obtain ⟨rfl, rfl⟩ := trodVars_none hV
  clear hA0
  simp only [List.append_nil] at hW' hk
  have hs := small hk
  have hb0 := part_bulk (d := d0) (l := [d0]) (by simp)
  obtain ⟨t, rfl, ht⟩ := open_tree (hval 0 25 v0 rfl rfl) h0 (by omega)
  have hlt0 : ∀ x ∈ p, x.block < W.heap.size := fun x hx => hW'.lt x (by simpa using hx)
  refine (bounds_any t (· < W.heap.size) W ht (fun b hb => hb)).mono fun e W' ⟨he, hb⟩ => ?_
  subst he
  exact ⟨_, rfl, post_of_below (pa := p) (pv := []) hW' (fun _ _ _ => trodAll_cons_mk (shut_bool Try.underlying4 _) trodAll_mk0)
    (trodAll_mk1 (Below.trod laidOut (by kernel_rfl) (of_decide_eq_true (by kernel_rfl)) h0 hb hlt0)) rfl (by simp) hb⟩

set_option maxRecDepth 100000 in
theorem lifted (os : Os) (started : os.Started) (H : Type) (enc : TypeId × Value → H) (F : Stop.Interp) :
    ReturnsInHanded {} Try.checked os 3 .any ((Rows.OpenSpec.upto Rows.progBoundsSpec).pre6 enc Try.prog Try.f3 Rows.progBoundsUptoRow.domain false) (((Rows.OpenSpec.upto Rows.progBoundsSpec).at F).post enc Try.prog Try.f3 false true false false) := by
  refine returnsInHanded_of_cond (C := Try.checked) (s := Rows.OpenSpec.upto Rows.progBoundsSpec) (k := Rows.uptoSmall) rfl own started (by kernel_rfl) Try.func3
    (OpenSpec.witness (enc := enc) (C := Try.checked) (s := Rows.OpenSpec.upto Rows.progBoundsSpec) (k := Rows.uptoSmall) rfl false ⟨#[], #[.agg #[.int .i64 0, .slice none 0 0, .int .i64 0, .slice none 0 0, .int .i64 0, .int .i64 0, .bool false, .int .i64 0, .string ⟨#[]⟩]], []⟩ 8 (by kernel_rfl) (by kernel_rfl) (by kernel_rfl)
      (x := ([.agg [.lit (.int .i64 0), .nil, .lit (.int .i64 0), .nil, .lit (.int .i64 0), .lit (.int .i64 0), .lit (.bool false), .lit (.int .i64 0), .lit (.string [])]], [], [])) (by kernel_rfl) rfl (by kernel_rfl)) ?_
  intro W base args ds gs before hval hW _ hk _
  exact contract H enc W base args ds gs before hval hW hk

theorem over : Rows.progBoundsUptoRow.holds Try.pinned (Rows.OpenSpec.upto Rows.progBoundsSpec) :=
  OpenClaim.holds_of_cond 3 Try.f3 rfl rfl rfl rfl rfl rfl rfl ⟨rfl, rfl, rfl, rfl, rfl⟩ rfl rfl rfl rfl rfl (by kernel_rfl) Try.func3 (by kernel_rfl)
    (of_decide_eq_true (by kernel_rfl)) (by unfold Func.isWrapper; first | (rw [if_pos (by decide +kernel)]; kernel_rfl) | (rw [if_neg (by decide +kernel)]; exact ⟨rfl, rfl⟩))
    (fun os started H enc _ F => lifted os started H enc F)

theorem proved : Rows.ProgBoundsUptoSaid :=
  over
#print axioms proved
end Go.Proofs.Ytfgelkfnbohmmaa.progBounds
