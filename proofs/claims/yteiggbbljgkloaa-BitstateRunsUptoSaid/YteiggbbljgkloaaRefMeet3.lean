/- heronref12.Machine.meet: runes, assertions -/
import Derived.Test.YteiggbbljgkloaaRefMeet1
import Derived.Deep.RegionHeld3
namespace Go.Proofs.Yteiggbbljgkloaa
open Go.RowKit Go.Proofs.Yteiggbbljgkloaa.Mach

set_option maxRecDepth 100000 in
set_option maxHeartbeats 4000000 in
theorem meet_assert (x : Mx) (C : Nat) (LV : Value) (s : MS) (w : World) (t : List Int) (p : Prg) (L : List InV) (i k q : Nat) (v : InV)
    (h : Mn x C LV s w) (hf : s.fin = none) (hx : Mcx x p t L) (hv : L[i]? = some v) (hk : x.k0 ≤ k ∧ k ≤ x.nt) (hq : bitOf t x.k0 i k = q) (hq2 : q < s.met.length) (hml : s.met.length = x.N) (hst : s.steps ≤ 16777216) (hroom : s.todo.length ≤ 1000000000) (hm : s.met.getD q true = false) (hop : v.I.op = 4) (hix : 0 ≤ v.I.x) (j : Nat) (hj : j < 6) (hja : v.I.arg = ((2 ^ j : Nat) : Int))
    : Calls Try.prog 31 #[.pointer (some ⟨x.mb, 0, none⟩), .int .i64 (i : Int), .int .i64 (k : Int)] w fun e w' => MeetPost x C (eff t v.I k { s with met := s.met.set q true, steps := s.steps + 1 }) e w' := by
  have _ := hroom
  have _ := hst
  obtain ⟨c0, c3, c4, c5, c6, c7, c8, c9⟩ := h.mb.cells
  have htl := hx.tl
  have hi : i < x.n := by have := hx.rp.len; have := (List.getElem?_eq_some_iff.1 hv).1; omega
  obtain ⟨pl, hpl⟩ : ∃ pl : Nat, pl = x.nt - x.k0 + 1 := ⟨_, rfl⟩
  have hk0 := hx.hk0
  have hple : (x.nt : Int) - (x.k0 : Int) + 1 = (pl : Int) := by omega
  have hntl := hx.ntl
  have hbig := hx.big
  have hmul : 0 ≤ (i : Int) * (pl : Int) ∧ (i : Int) * (pl : Int) + (k : Int) - (x.k0 : Int) = (q : Int) := by
    have e1 : (i : Int) * (pl : Int) = ((i * pl : Nat) : Int) := by norm_cast
    have e2 : i * pl + (k - x.k0) = q := by rw [← hq, hpl]; unfold bitOf places; rw [htl]
    rw [e1]; omega
  obtain ⟨hm1, hm2⟩ := hmul
  have hqN : q < x.N := by omega
  have hm3 : (i : Int) * (pl : Int) ≤ 16777216 := by omega
  have hqi : (q : Int) < (x.N : Int) := by omega
  have mfz : w.frozen? ⟨x.M, q, none⟩ = false := h.mb.met.frozen q
  have bfz : w.frozen? ⟨x.mb, 7, none⟩ = false := h.mb.mach.frozen 7
  have blt : x.mb < w.heap.size := h.mb.mach.lt
  have mlt : x.M < w.heap.size := h.mb.met.lt
  have hmq : w.cell? ⟨x.M, q, none⟩ = some (.bool (s.met.getD q true)) := by
    rw [h.mb.met.cell, List.getElem?_map, List.getD_eq_getElem?_getD, List.getElem?_eq_getElem hq2]; rfl
  have hne := h.mb.ne
  obtain ⟨ab, ao, hA, hab⟩ := hx.rp.at_ (by omega)
  have hab2 := hab
  have hrpw := hx.rp.below h.mb.below
  rw [hA] at hrpw c0
  obtain ⟨i0, i1, i2, i3, i4⟩ := hrpw.cells hv
  have hab3 : ab ≠ x.mb := by have := h.mb.loM; omega
  have hab4 : ab ≠ x.M := by have := h.mb.loN; omega
  have hn : (i : Int) < (x.n : Int) := by omega
  have H1 := Lib.hid h
  have HV := Lib.hid hv
  have HX := Lib.hid hx
  have HF := Lib.hid hf
  have HTL := Lib.hid htl
  rw [hm] at hmq
  obtain ⟨⟨op, ix, iy, iarg, irng⟩, iA, inn, ic⟩ := v
  simp only [] at hop i0 i1 i2 i3 i4
  subst hop
  simp only [] at hix hja
  obtain ⟨LA, lc, rfl⟩ := own_shape h.own
  have hbase := h.mb.below.size
  clear h hf hx hv hq hpl hm hrpw hA htl
  go_enter Try.func31, Try.ntmps31
  go_wp2_with fail
  go_quiet (fail)
  have hb2 := Lib.hid ((((H1.out.drewN nq).marked q).stepped (s.steps + 1) _ (show (s.steps : Int) + 1 = _ from by push_cast; rfl)).alloc (.cells #[.int .i64 4, .int .i64 ix, .int .i64 iy, .int .i64 iarg, .slice iA inn ic] 53))
  have HAT := Lib.hid (refAt_any x.At x.nt x.ct k x.w0.heap.size t _ (HX.out.rt.below hb2.out.mb.below) hk.2)
  have hab : ∃ z : Nat, atBits t k = (z : Int) ∧ z < 64 := by have := atBits_bd t k; exact ⟨(atBits t k).toNat, by omega, by omega⟩
  obtain ⟨z, hz, hz64⟩ := hab
  rw [hz] at HAT
  have hAS := fun u => refHolds_any j z hj hz64 u
  rw [← hja] at hAS
  have HZ := Lib.hid hz
  clear hz hz64 hja
  cases hds : decide ((z : Int) / iarg % 2 = 1) with
  | false =>
    rw [hds] at hAS
    have HAS := Lib.hid hAS
    clear hAS
    go_wp2_with (first | (go_at_call 44; refine HAT.out.mono ?_; rintro e w' ⟨rfl, rfl⟩; simp only []) | (go_at_call 45; refine (HAS.out _).mono ?_; rintro e w' ⟨rfl, rfl⟩; simp only []))
    go_ret
    have he : eff t ⟨4, ix, iy, iarg, irng⟩ k { s with met := s.met.set q true, steps := s.steps + 1 } = { s with met := s.met.set q true, steps := s.steps + 1 } := by show (if asB t k iarg then _ else _) = _; rw [asB, HZ.out, hds]; rfl
    rw [he]
    exact ⟨ret_bool (by rw [HF.out]; rfl), _, hb2.out⟩
  | true =>
    rw [hds] at hAS
    have HAS := Lib.hid hAS
    clear hAS
    go_wp2_with (first | (go_at_call 44; refine HAT.out.mono ?_; rintro e w' ⟨rfl, rfl⟩; simp only []) | (go_at_call 45; refine (HAS.out _).mono ?_; rintro e w' ⟨rfl, rfl⟩; simp only []))
    clear HAT HAS hb2
    have hb2 := Lib.hid ((((H1.out.drewN nq).marked q).stepped (s.steps + 1) _ (show (s.steps : Int) + 1 = _ from by push_cast; rfl)).alloc (.cells #[.int .i64 4, .int .i64 ix, .int .i64 iy, .int .i64 iarg, .slice iA inn ic] 53))
    have hi2 := Lib.hid (Blk.new (((w.drewN nq).setCell ⟨x.M, q, none⟩ (.bool true)).setCell ⟨x.mb, 7, none⟩ (.int .i64 ((s.steps : Int) + 1))) 53 [.int .i64 4, .int .i64 ix, .int .i64 iy, .int .i64 iarg, .slice iA inn ic])
    rw [show (((w.drewN nq).setCell ⟨x.M, q, none⟩ (.bool true)).setCell ⟨x.mb, 7, none⟩ (.int .i64 ((s.steps : Int) + 1))).heap.size = w.heap.size from by simp [World.setCell, World.drewN]] at hi2
    clear c0 c3 c4 c5 c6 c7 c8 c9 hmq mfz bfz i0 i1 i2 i3 i4 blt mlt
    generalize ((((w.drewN nq).setCell ⟨x.M, q, none⟩ (.bool true)).setCell ⟨x.mb, 7, none⟩ (.int .i64 ((s.steps : Int) + 1))).alloc (.cells #[.int .i64 4, .int .i64 ix, .int .i64 iy, .int .i64 iarg, .slice iA inn ic] 53)) = w2 at *
    obtain ⟨d0, d3, d4, d5, d6, d7, d8, d9⟩ := hb2.out.mb.cells
    have e0 : w2.cell? ⟨x.mb, 9, none⟩ = some (.slice LA s.todo.length lc) := d9
    have f0 : (w2.alloc (.cells #[.bool false, .int .i64 ix, .int .i64 (k : Int), .int .i64 0, .int .i64 0] 79)).cell? ⟨x.mb, 9, none⟩ = some (.slice LA s.todo.length lc) := (World.cell?_alloc_lt w2 (.cells #[.bool false, .int .i64 ix, .int .i64 (k : Int), .int .i64 0, .int .i64 0] 79) ⟨x.mb, 9, none⟩ (cell_lt e0)).trans e0
    have e1 : w2.cell? ⟨w.heap.size, 1, none⟩ = some (.int .i64 ix) := hi2.out.cell 1
    have f1 : (w2.alloc (.cells #[.bool false, .int .i64 ix, .int .i64 (k : Int), .int .i64 0, .int .i64 0] 79)).cell? ⟨w.heap.size, 1, none⟩ = some (.int .i64 ix) := (World.cell?_alloc_lt w2 (.cells #[.bool false, .int .i64 ix, .int .i64 (k : Int), .int .i64 0, .int .i64 0] 79) ⟨w.heap.size, 1, none⟩ (cell_lt e1)).trans e1
    obtain ⟨ii, hii, hz0, hz1, hz2⟩ := info_parts info_thing
    have ho2 := own_below hb2.out.own ((Below.refl _ _).alloc (Nat.le_refl _) (.cells #[.bool false, .int .i64 ix, .int .i64 (k : Int), .int .i64 0, .int .i64 0] 79))
    have hbs1 : x.w0.heap.size ≤ (w2.alloc (.cells #[.bool false, .int .i64 ix, .int .i64 (k : Int), .int .i64 0, .int .i64 0] 79)).drew.heap.size := by have := hb2.out.mb.below.size; simp; omega
    have hmb1 := Lib.hid (hb2.out.mb.mach.alloc (.cells #[.bool false, .int .i64 ix, .int .i64 (k : Int), .int .i64 0, .int .i64 0] 79))
    have hfar := hb2.out.far.2.2.1
    go_region_law (first
      | (refine step_append_lies _ rfl (.tmp 173) (.tmp 178) 47 rfl x.w0.heap.size 79 ii (.agg #[.bool false, .int .i64 0, .int .i64 0, .int .i64 0, .int .i64 0]) 5 40 Try.underlying47 hii hz0 hz1 hz2 rfl (by decide) (.slice LA (s.todo.length) lc) (s.todo.length) (thingRow s.todo) rfl ho2.drew ⟨w2.heap.size, 0, none⟩ 1 1 [.bool false, .int .i64 ix, .int .i64 (k : Int), .int .i64 0, .int .i64 0] rfl rfl (new_at w2 _ [.bool false, .int .i64 ix, .int .i64 (k : Int), .int .i64 0, .int .i64 0]) (by simp [Value.oneCell']) (by decide) (by unfold maxLen; omega) (by omega) hbs1 _ rfl ?_; intro g cap2 w3 hou2 hg2 hat2 hlt2; have hbq := hmb1.out.drew.grown hg2 hfar; have q1 := hbq.cell 9; have q2 := hbq.frozen 9; have q3 := hbq.lt; simp only [Mx.cells, List.getElem?_cons_succ, List.getElem?_cons_zero] at q1))
    all_goals
      go_wp2_with fail
      go_ret
      have he : eff t ⟨4, ix, iy, iarg, irng⟩ k { s with met := s.met.set q true, steps := s.steps + 1 } = { s with todo := .pair ix.toNat k :: s.todo, met := s.met.set q true, steps := s.steps + 1 } := by show (if asB t k iarg then _ else _) = _; rw [asB, HZ.out, hds]; rfl
      rw [he]
      have hrow : thingRow (.pair ix.toNat k :: s.todo) = thingRow s.todo ++ [.bool false, .int .i64 ix, .int .i64 (k : Int), .int .i64 0, .int .i64 0] := by
        rw [thingRow, thingVals, show ((ix.toNat : Nat) : Int) = ix from by omega]
      exact ⟨ret_bool (by rw [HF.out]; rfl), _, hb2.out.pushed _ hg2 (l := .pair ix.toNat k :: s.todo) (by rw [hrow]; exact hou2)⟩


set_option maxRecDepth 100000 in
set_option maxHeartbeats 4000000 in
theorem meet_rune_out (x : Mx) (C : Nat) (LV : Value) (s : MS) (w : World) (t : List Int) (p : Prg) (L : List InV) (i k q : Nat) (v : InV)
    (h : Mn x C LV s w) (hf : s.fin = none) (hx : Mcx x p t L) (hv : L[i]? = some v) (hk : x.k0 ≤ k ∧ k ≤ x.nt) (hq : bitOf t x.k0 i k = q) (hq2 : q < s.met.length) (hml : s.met.length = x.N) (hst : s.steps ≤ 16777216) (hroom : s.todo.length ≤ 1000000000) (hm : s.met.getD q true = false) (hop : v.I.op = 1) (hkn : ¬ k < x.nt)
    : Calls Try.prog 31 #[.pointer (some ⟨x.mb, 0, none⟩), .int .i64 (i : Int), .int .i64 (k : Int)] w fun e w' => MeetPost x C (eff t v.I k { s with met := s.met.set q true, steps := s.steps + 1 }) e w' := by
  have _ := hroom
  have _ := hst
  obtain ⟨c0, c3, c4, c5, c6, c7, c8, c9⟩ := h.mb.cells
  have htl := hx.tl
  have hi : i < x.n := by have := hx.rp.len; have := (List.getElem?_eq_some_iff.1 hv).1; omega
  obtain ⟨pl, hpl⟩ : ∃ pl : Nat, pl = x.nt - x.k0 + 1 := ⟨_, rfl⟩
  have hk0 := hx.hk0
  have hple : (x.nt : Int) - (x.k0 : Int) + 1 = (pl : Int) := by omega
  have hntl := hx.ntl
  have hbig := hx.big
  have hmul : 0 ≤ (i : Int) * (pl : Int) ∧ (i : Int) * (pl : Int) + (k : Int) - (x.k0 : Int) = (q : Int) := by
    have e1 : (i : Int) * (pl : Int) = ((i * pl : Nat) : Int) := by norm_cast
    have e2 : i * pl + (k - x.k0) = q := by rw [← hq, hpl]; unfold bitOf places; rw [htl]
    rw [e1]; omega
  obtain ⟨hm1, hm2⟩ := hmul
  have hqN : q < x.N := by omega
  have hm3 : (i : Int) * (pl : Int) ≤ 16777216 := by omega
  have hqi : (q : Int) < (x.N : Int) := by omega
  have mfz : w.frozen? ⟨x.M, q, none⟩ = false := h.mb.met.frozen q
  have bfz : w.frozen? ⟨x.mb, 7, none⟩ = false := h.mb.mach.frozen 7
  have blt : x.mb < w.heap.size := h.mb.mach.lt
  have mlt : x.M < w.heap.size := h.mb.met.lt
  have hmq : w.cell? ⟨x.M, q, none⟩ = some (.bool (s.met.getD q true)) := by
    rw [h.mb.met.cell, List.getElem?_map, List.getD_eq_getElem?_getD, List.getElem?_eq_getElem hq2]; rfl
  have hne := h.mb.ne
  obtain ⟨ab, ao, hA, hab⟩ := hx.rp.at_ (by omega)
  have hab2 := hab
  have hrpw := hx.rp.below h.mb.below
  rw [hA] at hrpw c0
  obtain ⟨i0, i1, i2, i3, i4⟩ := hrpw.cells hv
  have hab3 : ab ≠ x.mb := by have := h.mb.loM; omega
  have hab4 : ab ≠ x.M := by have := h.mb.loN; omega
  have hn : (i : Int) < (x.n : Int) := by omega
  have H1 := Lib.hid h
  have HV := Lib.hid hv
  have HX := Lib.hid hx
  have HF := Lib.hid hf
  have HTL := Lib.hid htl
  rw [hm] at hmq
  obtain ⟨⟨op, ix, iy, iarg, irng⟩, iA, inn, ic⟩ := v
  simp only [] at hop i0 i1 i2 i3 i4
  subst hop
  have hkn2 : ¬ ((k : Int) < (x.nt : Int)) := by omega
  clear h hf hx hv hq hpl hm hrpw hA htl
  go_enter Try.func31, Try.ntmps31
  go_wp2_with fail
  go_quiet (fail)
  have hb2 := Lib.hid ((((H1.out.drewN nq).marked q).stepped (s.steps + 1) _ (show (s.steps : Int) + 1 = _ from by push_cast; rfl)).alloc (.cells #[.int .i64 1, .int .i64 ix, .int .i64 iy, .int .i64 iarg, .slice iA inn ic] 53))
  go_wp2_with fail
  generalize ((((w.drewN nq).setCell ⟨x.M, q, none⟩ (.bool true)).setCell ⟨x.mb, 7, none⟩ (.int .i64 ((s.steps : Int) + 1))).alloc (.cells #[.int .i64 1, .int .i64 ix, .int .i64 iy, .int .i64 iarg, .slice iA inn ic] 53)) = w2 at *
  obtain ⟨d0, d3, d4, d5, d6, d7, d8, d9⟩ := hb2.out.mb.cells
  go_quiet (fail)
  go_wp2_with fail
  go_ret
  have he : eff t ⟨1, ix, iy, iarg, irng⟩ k { s with met := s.met.set q true, steps := s.steps + 1 } = { s with met := s.met.set q true, steps := s.steps + 1 } := by unfold eff; rw [if_pos rfl, if_neg]; rintro ⟨h1, _⟩; rw [HTL.out] at h1; exact hkn h1
  rw [he]
  exact ⟨ret_bool (by rw [HF.out]; rfl), _, hb2.out.drewN nq⟩


set_option maxRecDepth 100000 in
set_option maxHeartbeats 4000000 in
theorem meet_rune (x : Mx) (C : Nat) (LV : Value) (s : MS) (w : World) (t : List Int) (p : Prg) (L : List InV) (i k q : Nat) (v : InV)
    (h : Mn x C LV s w) (hf : s.fin = none) (hx : Mcx x p t L) (hv : L[i]? = some v) (hk : x.k0 ≤ k ∧ k ≤ x.nt) (hq : bitOf t x.k0 i k = q) (hq2 : q < s.met.length) (hml : s.met.length = x.N) (hst : s.steps ≤ 16777216) (hroom : s.todo.length ≤ 1000000000) (hm : s.met.getD q true = false) (hop : v.I.op = 1) (hix : 0 ≤ v.I.x) (hkn : k < x.nt) (hright : rightB v.I.rng = true)
    : Calls Try.prog 31 #[.pointer (some ⟨x.mb, 0, none⟩), .int .i64 (i : Int), .int .i64 (k : Int)] w fun e w' => MeetPost x C (eff t v.I k { s with met := s.met.set q true, steps := s.steps + 1 }) e w' := by
  have _ := hroom
  have _ := hst
  obtain ⟨c0, c3, c4, c5, c6, c7, c8, c9⟩ := h.mb.cells
  have htl := hx.tl
  have hi : i < x.n := by have := hx.rp.len; have := (List.getElem?_eq_some_iff.1 hv).1; omega
  obtain ⟨pl, hpl⟩ : ∃ pl : Nat, pl = x.nt - x.k0 + 1 := ⟨_, rfl⟩
  have hk0 := hx.hk0
  have hple : (x.nt : Int) - (x.k0 : Int) + 1 = (pl : Int) := by omega
  have hntl := hx.ntl
  have hbig := hx.big
  have hmul : 0 ≤ (i : Int) * (pl : Int) ∧ (i : Int) * (pl : Int) + (k : Int) - (x.k0 : Int) = (q : Int) := by
    have e1 : (i : Int) * (pl : Int) = ((i * pl : Nat) : Int) := by norm_cast
    have e2 : i * pl + (k - x.k0) = q := by rw [← hq, hpl]; unfold bitOf places; rw [htl]
    rw [e1]; omega
  obtain ⟨hm1, hm2⟩ := hmul
  have hqN : q < x.N := by omega
  have hm3 : (i : Int) * (pl : Int) ≤ 16777216 := by omega
  have hqi : (q : Int) < (x.N : Int) := by omega
  have mfz : w.frozen? ⟨x.M, q, none⟩ = false := h.mb.met.frozen q
  have bfz : w.frozen? ⟨x.mb, 7, none⟩ = false := h.mb.mach.frozen 7
  have blt : x.mb < w.heap.size := h.mb.mach.lt
  have mlt : x.M < w.heap.size := h.mb.met.lt
  have hmq : w.cell? ⟨x.M, q, none⟩ = some (.bool (s.met.getD q true)) := by
    rw [h.mb.met.cell, List.getElem?_map, List.getD_eq_getElem?_getD, List.getElem?_eq_getElem hq2]; rfl
  have hne := h.mb.ne
  obtain ⟨ab, ao, hA, hab⟩ := hx.rp.at_ (by omega)
  have hab2 := hab
  have hrpw := hx.rp.below h.mb.below
  rw [hA] at hrpw c0
  obtain ⟨i0, i1, i2, i3, i4⟩ := hrpw.cells hv
  have hab3 : ab ≠ x.mb := by have := h.mb.loM; omega
  have hab4 : ab ≠ x.M := by have := h.mb.loN; omega
  have hn : (i : Int) < (x.n : Int) := by omega
  have H1 := Lib.hid h
  have HV := Lib.hid hv
  have HX := Lib.hid hx
  have HF := Lib.hid hf
  have HTL := Lib.hid htl
  rw [hm] at hmq
  obtain ⟨⟨op, ix, iy, iarg, irng⟩, iA, inn, ic⟩ := v
  simp only [] at hop i0 i1 i2 i3 i4
  subst hop
  simp only [] at hix hright
  have hkn2 : (k : Int) < (x.nt : Int) := by omega
  obtain ⟨k1, hk1⟩ : ∃ k1 : Int, (k : Int) + 1 = k1 := ⟨_, rfl⟩
  have hk2 : k1 ≤ 4194305 := by have := hx.ntl; omega
  have hk3 : 0 ≤ k1 := by omega
  have hwr : IntKind.i64.wrap k1 = k1 := IntWalk.i64_in k1 ⟨by omega, by omega⟩
  obtain ⟨tb, to_, hTA, _⟩ := hx.rt.at_ (by omega)
  have HTA := Lib.hid hTA
  rw [hTA] at c3
  obtain ⟨LA, lc, rfl⟩ := own_shape h.own
  have hbase := h.mb.below.size
  clear h hf hx hv hq hpl hm hrpw hA hTA htl
  go_enter Try.func31, Try.ntmps31
  go_wp2_with fail
  go_quiet (fail)
  go_wp2_with fail
  have hb2 := Lib.hid ((((H1.out.drewN nq).marked q).stepped (s.steps + 1) _ (show (s.steps : Int) + 1 = _ from by push_cast; rfl)).alloc (.cells #[.int .i64 1, .int .i64 ix, .int .i64 iy, .int .i64 iarg, .slice iA inn ic] 53))
  have hi2 := Lib.hid (Blk.new (((w.drewN nq).setCell ⟨x.M, q, none⟩ (.bool true)).setCell ⟨x.mb, 7, none⟩ (.int .i64 ((s.steps : Int) + 1))) 53 [.int .i64 1, .int .i64 ix, .int .i64 iy, .int .i64 iarg, .slice iA inn ic])
  rw [show (((w.drewN nq).setCell ⟨x.M, q, none⟩ (.bool true)).setCell ⟨x.mb, 7, none⟩ (.int .i64 ((s.steps : Int) + 1))).heap.size = w.heap.size from by simp [World.setCell, World.drewN]] at hi2
  clear c0 c3 c4 c5 c6 c7 c8 c9 hmq mfz bfz i0 i1 i2 i3 i4 blt mlt
  generalize ((((w.drewN nq).setCell ⟨x.M, q, none⟩ (.bool true)).setCell ⟨x.mb, 7, none⟩ (.int .i64 ((s.steps : Int) + 1))).alloc (.cells #[.int .i64 1, .int .i64 ix, .int .i64 iy, .int .i64 iarg, .slice iA inn ic] 53)) = w2 at *
  obtain ⟨d0, d3, d4, d5, d6, d7, d8, d9⟩ := hb2.out.mb.cells
  have hrt := HX.out.rt.below hb2.out.mb.below
  have HRR := Lib.hid ((HX.out.rp.below hb2.out.mb.below).2 _ (List.mem_of_getElem? HV.out)).1
  have ht0 : w2.cell? ⟨tb, to_ + k, none⟩ = some (.int .i64 (t.getD k 0)) := by
    have hr := hrt
    rw [HTA.out] at hr
    exact text_at hr hkn
  clear hrt
  simp only [] at HRR
  rw [HTA.out] at d3
  have HHAS := Lib.hid (fun n => refHas_any iA inn ic _ (t.getD k 0) irng (w2.drewN n) (HRR.out.drewN n))
  generalize hr0 : t.getD k 0 = r0 at *
  have HR0 := Lib.hid hr0
  clear hr0
  have hi0 := hi2.out.cell 4
  simp only [List.getElem?_cons_succ, List.getElem?_cons_zero] at hi0
  go_quiet (first | (go_at_call 43; refine (HHAS.out _).mono ?_; rintro e w3 ⟨he, m, hm⟩; exact ⟨he, _, by rw [← hm, World.drewN_drewN]⟩))
  rw [hright, Bool.true_and]
  clear HHAS HRR
  have hi3 := Lib.hid (hi2.out.drewN nq)
  have hb3 := Lib.hid (hb2.out.drewN nq)
  clear hb2 hi2 d0 d3 d4 d5 d6 d7 d8 d9 ht0 hi0
  generalize w2.drewN nq = w4 at *
  obtain ⟨d0, d3, d4, d5, d6, d7, d8, d9⟩ := hb3.out.mb.cells
  cases hbm : memB irng r0 with
  | false =>
    go_wp2_with fail
    go_ret
    have he : eff t ⟨1, ix, iy, iarg, irng⟩ k { s with met := s.met.set q true, steps := s.steps + 1 } = { s with met := s.met.set q true, steps := s.steps + 1 } := by unfold eff; rw [if_pos rfl, if_neg]; rintro ⟨_, h1⟩; simp only [] at h1; rw [HR0.out, hbm] at h1; cases h1
    rw [he]
    exact ⟨ret_bool (by rw [HF.out]; rfl), _, hb3.out⟩
  | true =>
    go_wp2_with fail
    have e0 : w4.cell? ⟨x.mb, 9, none⟩ = some (.slice LA s.todo.length lc) := d9
    have f0 : (w4.alloc (.cells #[.bool false, .int .i64 ix, .int .i64 k1, .int .i64 0, .int .i64 0] 79)).cell? ⟨x.mb, 9, none⟩ = some (.slice LA s.todo.length lc) := (World.cell?_alloc_lt w4 (.cells #[.bool false, .int .i64 ix, .int .i64 k1, .int .i64 0, .int .i64 0] 79) ⟨x.mb, 9, none⟩ (cell_lt e0)).trans e0
    have e1 : w4.cell? ⟨w.heap.size, 1, none⟩ = some (.int .i64 ix) := hi3.out.cell 1
    have f1 : (w4.alloc (.cells #[.bool false, .int .i64 ix, .int .i64 k1, .int .i64 0, .int .i64 0] 79)).cell? ⟨w.heap.size, 1, none⟩ = some (.int .i64 ix) := (World.cell?_alloc_lt w4 (.cells #[.bool false, .int .i64 ix, .int .i64 k1, .int .i64 0, .int .i64 0] 79) ⟨w.heap.size, 1, none⟩ (cell_lt e1)).trans e1
    obtain ⟨ii, hii, hz0, hz1, hz2⟩ := info_parts info_thing
    have ho2 := own_below hb3.out.own ((Below.refl _ _).alloc (Nat.le_refl _) (.cells #[.bool false, .int .i64 ix, .int .i64 k1, .int .i64 0, .int .i64 0] 79))
    have hbs1 : x.w0.heap.size ≤ (w4.alloc (.cells #[.bool false, .int .i64 ix, .int .i64 k1, .int .i64 0, .int .i64 0] 79)).drew.heap.size := by have := hb3.out.mb.below.size; simp; omega
    have hmb1 := Lib.hid (hb3.out.mb.mach.alloc (.cells #[.bool false, .int .i64 ix, .int .i64 k1, .int .i64 0, .int .i64 0] 79))
    have hfar := hb3.out.far.2.2.1
    go_region_law (first
      | (refine step_append_lies _ rfl (.tmp 88) (.tmp 94) 47 rfl x.w0.heap.size 79 ii (.agg #[.bool false, .int .i64 0, .int .i64 0, .int .i64 0, .int .i64 0]) 5 40 Try.underlying47 hii hz0 hz1 hz2 rfl (by decide) (.slice LA (s.todo.length) lc) (s.todo.length) (thingRow s.todo) rfl ho2.drew ⟨w4.heap.size, 0, none⟩ 1 1 [.bool false, .int .i64 ix, .int .i64 k1, .int .i64 0, .int .i64 0] rfl rfl (new_at w4 _ [.bool false, .int .i64 ix, .int .i64 k1, .int .i64 0, .int .i64 0]) (by simp [Value.oneCell']) (by decide) (by unfold maxLen; omega) (by omega) hbs1 _ rfl ?_; intro g cap2 w3 hou2 hg2 hat2 hlt2; have hbq := hmb1.out.drew.grown hg2 hfar; have q1 := hbq.cell 9; have q2 := hbq.frozen 9; have q3 := hbq.lt; simp only [Mx.cells, List.getElem?_cons_succ, List.getElem?_cons_zero] at q1))
    all_goals
      go_wp2_with fail
      go_ret
      have he : eff t ⟨1, ix, iy, iarg, irng⟩ k { s with met := s.met.set q true, steps := s.steps + 1 } = { s with todo := .pair ix.toNat (k + 1) :: s.todo, met := s.met.set q true, steps := s.steps + 1 } := by unfold eff; rw [if_pos rfl, if_pos ⟨by rw [HTL.out]; exact hkn, by simp only []; rw [HR0.out, hbm]⟩]
      rw [he]
      have hrow : thingRow (.pair ix.toNat (k + 1) :: s.todo) = thingRow s.todo ++ [.bool false, .int .i64 ix, .int .i64 k1, .int .i64 0, .int .i64 0] := by
        rw [thingRow, thingVals, show ((ix.toNat : Nat) : Int) = ix from by omega, ← hk1]; push_cast; rfl
      exact ⟨ret_bool (by rw [HF.out]; rfl), _, hb3.out.pushed _ hg2 (l := .pair ix.toNat (k + 1) :: s.todo) (by rw [hrow]; exact hou2)⟩


set_option maxRecDepth 100000 in
/-- Behind the old capture's being put aside. -/
def CapR (x : Mx) (C : Nat) (s' : MS) (i k ib : Nat) (iv : List Value) (a : Act) (w : World) : Prop :=
  ∃ tm : List Value, a = ⟨tm.toArray, []⟩ ∧ tm.length = 182 ∧ tm[0]? = some (.pointer (some ⟨x.mb, 0, none⟩)) ∧ tm[1]? = some (.int .i64 (i : Int)) ∧ tm[2]? = some (.int .i64 (k : Int)) ∧ tm[6]? = some (.bool false) ∧ tm[8]? = some (.pointer (some ⟨ib, 0, none⟩)) ∧ tm[9]? = some (.bool false) ∧ (∃ LV, Mn x C LV s' w) ∧ Blk w ib 53 iv
theorem cons_of {n : Nat} {l : List Value} (h : l.length = n + 1) : ∃ u l', l = u :: l' ∧ l'.length = n := by
  match l, h with
  | u :: l', h => exact ⟨u, l', rfl, by simpa using h⟩

set_option maxRecDepth 100000 in
set_option maxHeartbeats 100000000 in
theorem meet_cap (x : Mx) (C : Nat) (LV : Value) (s : MS) (w : World) (t : List Int) (p : Prg) (L : List InV) (i k q : Nat) (v : InV)
    (h : Mn x C LV s w) (hf : s.fin = none) (hx : Mcx x p t L) (hv : L[i]? = some v) (hk : x.k0 ≤ k ∧ k ≤ x.nt) (hq : bitOf t x.k0 i k = q) (hq2 : q < s.met.length) (hml : s.met.length = x.N) (hst : s.steps ≤ 16777216) (hroom : s.todo.length ≤ 1000000000) (hm : s.met.getD q true = false) (hop : v.I.op = 3) (hix : 0 ≤ v.I.x) (ca : Nat) (hca : v.I.arg = (ca : Int)) (hcl : ca < s.caps.length) (hcl2 : s.caps.length ≤ 1002)
    : Calls Try.prog 31 #[.pointer (some ⟨x.mb, 0, none⟩), .int .i64 (i : Int), .int .i64 (k : Int)] w fun e w' => MeetPost x C (eff t v.I k { s with met := s.met.set q true, steps := s.steps + 1 }) e w' := by
  have _ := hroom
  have _ := hst
  obtain ⟨c0, c3, c4, c5, c6, c7, c8, c9⟩ := h.mb.cells
  have htl := hx.tl
  have hi : i < x.n := by have := hx.rp.len; have := (List.getElem?_eq_some_iff.1 hv).1; omega
  obtain ⟨pl, hpl⟩ : ∃ pl : Nat, pl = x.nt - x.k0 + 1 := ⟨_, rfl⟩
  have hk0 := hx.hk0
  have hple : (x.nt : Int) - (x.k0 : Int) + 1 = (pl : Int) := by omega
  have hntl := hx.ntl
  have hbig := hx.big
  have hmul : 0 ≤ (i : Int) * (pl : Int) ∧ (i : Int) * (pl : Int) + (k : Int) - (x.k0 : Int) = (q : Int) := by
    have e1 : (i : Int) * (pl : Int) = ((i * pl : Nat) : Int) := by norm_cast
    have e2 : i * pl + (k - x.k0) = q := by rw [← hq, hpl]; unfold bitOf places; rw [htl]
    rw [e1]; omega
  obtain ⟨hm1, hm2⟩ := hmul
  have hqN : q < x.N := by omega
  have hm3 : (i : Int) * (pl : Int) ≤ 16777216 := by omega
  have hqi : (q : Int) < (x.N : Int) := by omega
  have mfz : w.frozen? ⟨x.M, q, none⟩ = false := h.mb.met.frozen q
  have bfz : w.frozen? ⟨x.mb, 7, none⟩ = false := h.mb.mach.frozen 7
  have blt : x.mb < w.heap.size := h.mb.mach.lt
  have mlt : x.M < w.heap.size := h.mb.met.lt
  have hmq : w.cell? ⟨x.M, q, none⟩ = some (.bool (s.met.getD q true)) := by
    rw [h.mb.met.cell, List.getElem?_map, List.getD_eq_getElem?_getD, List.getElem?_eq_getElem hq2]; rfl
  have hne := h.mb.ne
  obtain ⟨ab, ao, hA, hab⟩ := hx.rp.at_ (by omega)
  have hab2 := hab
  have hrpw := hx.rp.below h.mb.below
  rw [hA] at hrpw c0
  obtain ⟨i0, i1, i2, i3, i4⟩ := hrpw.cells hv
  have hab3 : ab ≠ x.mb := by have := h.mb.loM; omega
  have hab4 : ab ≠ x.M := by have := h.mb.loN; omega
  have hn : (i : Int) < (x.n : Int) := by omega
  have H1 := Lib.hid h
  have HV := Lib.hid hv
  have HX := Lib.hid hx
  have HF := Lib.hid hf
  have HTL := Lib.hid htl
  rw [hm] at hmq
  obtain ⟨⟨op, ix, iy, iarg, irng⟩, iA, inn, ic⟩ := v
  simp only [] at hop i0 i1 i2 i3 i4
  subst hop
  simp only [] at hix hca
  subst hca
  have hca2 : (ca : Int) < (s.caps.length : Int) := by omega
  obtain ⟨z, hz⟩ : ∃ z, s.caps[ca]? = some z := ⟨_, List.getElem?_eq_getElem hcl⟩
  have hcz : w.cell? ⟨C, ca, none⟩ = some (.int .i64 z) := by rw [h.capt.cell, List.getElem?_map, hz]; rfl
  have HZ := Lib.hid hz
  obtain ⟨LA, lc, rfl⟩ := own_shape h.own
  have hbase := h.mb.below.size
  clear h hf hx hv hq hpl hm hrpw hA hz htl
  go_enter Try.func31, Try.ntmps31
  go_wp2_with fail
  go_quiet (fail)
  go_wp2_with fail
  have hb2 := Lib.hid ((((H1.out.drewN nq).marked q).stepped (s.steps + 1) _ (show (s.steps : Int) + 1 = _ from by push_cast; rfl)).alloc (.cells #[.int .i64 3, .int .i64 ix, .int .i64 iy, .int .i64 (ca : Int), .slice iA inn ic] 53))
  have hi2 := Lib.hid (Blk.new (((w.drewN nq).setCell ⟨x.M, q, none⟩ (.bool true)).setCell ⟨x.mb, 7, none⟩ (.int .i64 ((s.steps : Int) + 1))) 53 [.int .i64 3, .int .i64 ix, .int .i64 iy, .int .i64 (ca : Int), .slice iA inn ic])
  rw [show (((w.drewN nq).setCell ⟨x.M, q, none⟩ (.bool true)).setCell ⟨x.mb, 7, none⟩ (.int .i64 ((s.steps : Int) + 1))).heap.size = w.heap.size from by simp [World.setCell, World.drewN]] at hi2
  clear hcz c0 c3 c4 c5 c6 c7 c8 c9 hmq mfz bfz i0 i1 i2 i3 i4 blt mlt
  generalize ((((w.drewN nq).setCell ⟨x.M, q, none⟩ (.bool true)).setCell ⟨x.mb, 7, none⟩ (.int .i64 ((s.steps : Int) + 1))).alloc (.cells #[.int .i64 3, .int .i64 ix, .int .i64 iy, .int .i64 (ca : Int), .slice iA inn ic] 53)) = w2 at *
  obtain ⟨d0, d3, d4, d5, d6, d7, d8, d9⟩ := hb2.out.mb.cells
  have g1 : w2.cell? ⟨C, ca, none⟩ = some (.int .i64 z) := by rw [hb2.out.capt.cell, List.getElem?_map, HZ.out]; rfl
  have hC1 := Lib.hid (hb2.out.capt.alloc (.cells #[.bool true, .int .i64 0, .int .i64 0, .int .i64 (ca : Int), .int .i64 z] 79))
  have hi1 := Lib.hid (hi2.out.alloc (.cells #[.bool true, .int .i64 0, .int .i64 0, .int .i64 (ca : Int), .int .i64 z] 79))
  have hfC := Lib.hid hb2.out.far
  have hfI := Lib.hid (show some w.heap.size ≠ (Value.slice LA s.todo.length lc).ownBlock ∧ w.heap.size ≠ x.mb from ⟨blk_apart hb2.out.own hi2.out (by decide), hi2.out.ne_ hb2.out.mb.mach (by decide)⟩)
  refine wp_mono (Q := fun e a' w' => e = .normal ∧ CapR x C ⟨.back ca z :: s.todo, s.met.set q true, s.caps, s.steps + 1, s.fin⟩ i k w.heap.size [.int .i64 3, .int .i64 ix, .int .i64 iy, .int .i64 (ca : Int), .slice iA inn ic] a' w') ?_ ?_
  · refine wp_region_noPanic ?_
    have e0 : w2.cell? ⟨x.mb, 9, none⟩ = some (.slice LA s.todo.length lc) := d9
    have f0 : (w2.alloc (.cells #[.bool true, .int .i64 0, .int .i64 0, .int .i64 (ca : Int), .int .i64 z] 79)).cell? ⟨x.mb, 9, none⟩ = some (.slice LA s.todo.length lc) := (World.cell?_alloc_lt w2 (.cells #[.bool true, .int .i64 0, .int .i64 0, .int .i64 (ca : Int), .int .i64 z] 79) ⟨x.mb, 9, none⟩ (cell_lt e0)).trans e0
    have e1 : w2.cell? ⟨x.mb, 6, none⟩ = some (.slice (some ⟨C, 0, none⟩) s.caps.length s.caps.length) := d6
    have f1 : (w2.alloc (.cells #[.bool true, .int .i64 0, .int .i64 0, .int .i64 (ca : Int), .int .i64 z] 79)).cell? ⟨x.mb, 6, none⟩ = some (.slice (some ⟨C, 0, none⟩) s.caps.length s.caps.length) := (World.cell?_alloc_lt w2 (.cells #[.bool true, .int .i64 0, .int .i64 0, .int .i64 (ca : Int), .int .i64 z] 79) ⟨x.mb, 6, none⟩ (cell_lt e1)).trans e1
    have e2 : w2.cell? ⟨w.heap.size, 3, none⟩ = some (.int .i64 (ca : Int)) := hi2.out.cell 3
    have f2 : (w2.alloc (.cells #[.bool true, .int .i64 0, .int .i64 0, .int .i64 (ca : Int), .int .i64 z] 79)).cell? ⟨w.heap.size, 3, none⟩ = some (.int .i64 (ca : Int)) := (World.cell?_alloc_lt w2 (.cells #[.bool true, .int .i64 0, .int .i64 0, .int .i64 (ca : Int), .int .i64 z] 79) ⟨w.heap.size, 3, none⟩ (cell_lt e2)).trans e2
    have e3 : w2.cell? ⟨C, ca, none⟩ = some (.int .i64 z) := g1
    have f3 : (w2.alloc (.cells #[.bool true, .int .i64 0, .int .i64 0, .int .i64 (ca : Int), .int .i64 z] 79)).cell? ⟨C, ca, none⟩ = some (.int .i64 z) := (World.cell?_alloc_lt w2 (.cells #[.bool true, .int .i64 0, .int .i64 0, .int .i64 (ca : Int), .int .i64 z] 79) ⟨C, ca, none⟩ (cell_lt e3)).trans e3
    obtain ⟨ii, hii, hz0, hz1, hz2⟩ := info_parts info_thing
    have ho2 := own_below hb2.out.own ((Below.refl _ _).alloc (Nat.le_refl _) (.cells #[.bool true, .int .i64 0, .int .i64 0, .int .i64 (ca : Int), .int .i64 z] 79))
    have hbs1 : x.w0.heap.size ≤ (w2.alloc (.cells #[.bool true, .int .i64 0, .int .i64 0, .int .i64 (ca : Int), .int .i64 z] 79)).drew.heap.size := by have := hb2.out.mb.below.size; simp; omega
    have hmb1 := Lib.hid (hb2.out.mb.mach.alloc (.cells #[.bool true, .int .i64 0, .int .i64 0, .int .i64 (ca : Int), .int .i64 z] 79))
    have hfar := hb2.out.far.2.2.1
    go_region_law (first
      | (refine step_append_lies _ rfl (.tmp 123) (.tmp 135) 47 rfl x.w0.heap.size 79 ii (.agg #[.bool false, .int .i64 0, .int .i64 0, .int .i64 0, .int .i64 0]) 5 40 Try.underlying47 hii hz0 hz1 hz2 rfl (by decide) (.slice LA (s.todo.length) lc) (s.todo.length) (thingRow s.todo) rfl ho2.drew ⟨w2.heap.size, 0, none⟩ 1 1 [.bool true, .int .i64 0, .int .i64 0, .int .i64 (ca : Int), .int .i64 z] rfl rfl (new_at w2 _ [.bool true, .int .i64 0, .int .i64 0, .int .i64 (ca : Int), .int .i64 z]) (by simp [Value.oneCell']) (by decide) (by unfold maxLen; omega) (by omega) hbs1 _ rfl ?_; intro g cap2 w3 hou2 hg2 hat2 hlt2; have hbq := hmb1.out.drew.grown hg2 hfar; have q1 := hbq.cell 9; have q2 := hbq.frozen 9; have q3 := hbq.lt; simp only [Mx.cells, List.getElem?_cons_succ, List.getElem?_cons_zero] at q1))
    all_goals
      refine NoPanic.normal ⟨rfl, ?_⟩
      have hp := hb2.out.pushed _ hg2 (l := .back ca z :: s.todo) (by rw [thingRow, thingVals]; exact hou2)
      have hi3 : Blk (w3.setCell ⟨x.mb, 9, none⟩ (.slice (some ⟨g, 0, none⟩) (s.todo.length + 1) cap2)) w.heap.size 53 [.int .i64 3, .int .i64 ix, .int .i64 iy, .int .i64 (ca : Int), .slice iA inn ic] :=
        ((hi2.out.alloc _).drew.grown hg2 (blk_apart hb2.out.own hi2.out (by decide))).far (p := ⟨x.mb, 9, none⟩) (hi2.out.ne_ hb2.out.mb.mach (by decide)) _
      exact ⟨_, rfl, rfl, rfl, rfl, rfl, rfl, rfl, rfl, ⟨_, hp⟩, hi3⟩
  clear hC1 hi1 hfC hfI d0 d3 d4 d5 d6 d7 d8 d9 g1 hb2 hi2
  intro e a' w4 hR
  obtain ⟨rfl, hR⟩ := hR
  obtain ⟨tm, ha, hsz, t0, t1, t2, t6, t8, t9, ⟨LV4, hp0⟩, hi0⟩ := hR
  obtain ⟨u0, tm0, em, hz0⟩ := cons_of hsz
  subst em
  obtain ⟨u1, tm1, em, hz1⟩ := cons_of hz0
  subst em
  obtain ⟨u2, tm2, em, hz2⟩ := cons_of hz1
  subst em
  clear hz1
  obtain ⟨u3, tm3, em, hz3⟩ := cons_of hz2
  subst em
  clear hz2
  obtain ⟨u4, tm4, em, hz4⟩ := cons_of hz3
  subst em
  clear hz3
  obtain ⟨u5, tm5, em, hz5⟩ := cons_of hz4
  subst em
  clear hz4
  obtain ⟨u6, tm6, em, hz6⟩ := cons_of hz5
  subst em
  clear hz5
  obtain ⟨u7, tm7, em, hz7⟩ := cons_of hz6
  subst em
  clear hz6
  obtain ⟨u8, tm8, em, hz8⟩ := cons_of hz7
  subst em
  clear hz7
  obtain ⟨u9, tm9, em, hz9⟩ := cons_of hz8
  subst em
  clear hz8
  obtain ⟨u10, tm10, em, hz10⟩ := cons_of hz9
  subst em
  clear hz9
  obtain ⟨u11, tm11, em, hz11⟩ := cons_of hz10
  subst em
  clear hz10
  obtain ⟨u12, tm12, em, hz12⟩ := cons_of hz11
  subst em
  clear hz11
  obtain ⟨u13, tm13, em, hz13⟩ := cons_of hz12
  subst em
  clear hz12
  obtain ⟨u14, tm14, em, hz14⟩ := cons_of hz13
  subst em
  clear hz13
  obtain ⟨u15, tm15, em, hz15⟩ := cons_of hz14
  subst em
  clear hz14
  obtain ⟨u16, tm16, em, hz16⟩ := cons_of hz15
  subst em
  clear hz15
  obtain ⟨u17, tm17, em, hz17⟩ := cons_of hz16
  subst em
  clear hz16
  obtain ⟨u18, tm18, em, hz18⟩ := cons_of hz17
  subst em
  clear hz17
  obtain ⟨u19, tm19, em, hz19⟩ := cons_of hz18
  subst em
  clear hz18
  obtain ⟨u20, tm20, em, hz20⟩ := cons_of hz19
  subst em
  clear hz19
  obtain ⟨u21, tm21, em, hz21⟩ := cons_of hz20
  subst em
  clear hz20
  obtain ⟨u22, tm22, em, hz22⟩ := cons_of hz21
  subst em
  clear hz21
  obtain ⟨u23, tm23, em, hz23⟩ := cons_of hz22
  subst em
  clear hz22
  obtain ⟨u24, tm24, em, hz24⟩ := cons_of hz23
  subst em
  clear hz23
  obtain ⟨u25, tm25, em, hz25⟩ := cons_of hz24
  subst em
  clear hz24
  obtain ⟨u26, tm26, em, hz26⟩ := cons_of hz25
  subst em
  clear hz25
  obtain ⟨u27, tm27, em, hz27⟩ := cons_of hz26
  subst em
  clear hz26
  obtain ⟨u28, tm28, em, hz28⟩ := cons_of hz27
  subst em
  clear hz27
  obtain ⟨u29, tm29, em, hz29⟩ := cons_of hz28
  subst em
  clear hz28
  obtain ⟨u30, tm30, em, hz30⟩ := cons_of hz29
  subst em
  clear hz29
  obtain ⟨u31, tm31, em, hz31⟩ := cons_of hz30
  subst em
  clear hz30
  obtain ⟨u32, tm32, em, hz32⟩ := cons_of hz31
  subst em
  clear hz31
  obtain ⟨u33, tm33, em, hz33⟩ := cons_of hz32
  subst em
  clear hz32
  obtain ⟨u34, tm34, em, hz34⟩ := cons_of hz33
  subst em
  clear hz33
  obtain ⟨u35, tm35, em, hz35⟩ := cons_of hz34
  subst em
  clear hz34
  obtain ⟨u36, tm36, em, hz36⟩ := cons_of hz35
  subst em
  clear hz35
  obtain ⟨u37, tm37, em, hz37⟩ := cons_of hz36
  subst em
  clear hz36
  obtain ⟨u38, tm38, em, hz38⟩ := cons_of hz37
  subst em
  clear hz37
  obtain ⟨u39, tm39, em, hz39⟩ := cons_of hz38
  subst em
  clear hz38
  obtain ⟨u40, tm40, em, hz40⟩ := cons_of hz39
  subst em
  clear hz39
  obtain ⟨u41, tm41, em, hz41⟩ := cons_of hz40
  subst em
  clear hz40
  obtain ⟨u42, tm42, em, hz42⟩ := cons_of hz41
  subst em
  clear hz41
  obtain ⟨u43, tm43, em, hz43⟩ := cons_of hz42
  subst em
  clear hz42
  obtain ⟨u44, tm44, em, hz44⟩ := cons_of hz43
  subst em
  clear hz43
  obtain ⟨u45, tm45, em, hz45⟩ := cons_of hz44
  subst em
  clear hz44
  obtain ⟨u46, tm46, em, hz46⟩ := cons_of hz45
  subst em
  clear hz45
  obtain ⟨u47, tm47, em, hz47⟩ := cons_of hz46
  subst em
  clear hz46
  obtain ⟨u48, tm48, em, hz48⟩ := cons_of hz47
  subst em
  clear hz47
  obtain ⟨u49, tm49, em, hz49⟩ := cons_of hz48
  subst em
  clear hz48
  obtain ⟨u50, tm50, em, hz50⟩ := cons_of hz49
  subst em
  clear hz49
  obtain ⟨u51, tm51, em, hz51⟩ := cons_of hz50
  subst em
  clear hz50
  obtain ⟨u52, tm52, em, hz52⟩ := cons_of hz51
  subst em
  clear hz51
  obtain ⟨u53, tm53, em, hz53⟩ := cons_of hz52
  subst em
  clear hz52
  obtain ⟨u54, tm54, em, hz54⟩ := cons_of hz53
  subst em
  clear hz53
  obtain ⟨u55, tm55, em, hz55⟩ := cons_of hz54
  subst em
  clear hz54
  obtain ⟨u56, tm56, em, hz56⟩ := cons_of hz55
  subst em
  clear hz55
  obtain ⟨u57, tm57, em, hz57⟩ := cons_of hz56
  subst em
  clear hz56
  obtain ⟨u58, tm58, em, hz58⟩ := cons_of hz57
  subst em
  clear hz57
  obtain ⟨u59, tm59, em, hz59⟩ := cons_of hz58
  subst em
  clear hz58
  obtain ⟨u60, tm60, em, hz60⟩ := cons_of hz59
  subst em
  clear hz59
  obtain ⟨u61, tm61, em, hz61⟩ := cons_of hz60
  subst em
  clear hz60
  obtain ⟨u62, tm62, em, hz62⟩ := cons_of hz61
  subst em
  clear hz61
  obtain ⟨u63, tm63, em, hz63⟩ := cons_of hz62
  subst em
  clear hz62
  obtain ⟨u64, tm64, em, hz64⟩ := cons_of hz63
  subst em
  clear hz63
  obtain ⟨u65, tm65, em, hz65⟩ := cons_of hz64
  subst em
  clear hz64
  obtain ⟨u66, tm66, em, hz66⟩ := cons_of hz65
  subst em
  clear hz65
  obtain ⟨u67, tm67, em, hz67⟩ := cons_of hz66
  subst em
  clear hz66
  obtain ⟨u68, tm68, em, hz68⟩ := cons_of hz67
  subst em
  clear hz67
  obtain ⟨u69, tm69, em, hz69⟩ := cons_of hz68
  subst em
  clear hz68
  obtain ⟨u70, tm70, em, hz70⟩ := cons_of hz69
  subst em
  clear hz69
  obtain ⟨u71, tm71, em, hz71⟩ := cons_of hz70
  subst em
  clear hz70
  obtain ⟨u72, tm72, em, hz72⟩ := cons_of hz71
  subst em
  clear hz71
  obtain ⟨u73, tm73, em, hz73⟩ := cons_of hz72
  subst em
  clear hz72
  obtain ⟨u74, tm74, em, hz74⟩ := cons_of hz73
  subst em
  clear hz73
  obtain ⟨u75, tm75, em, hz75⟩ := cons_of hz74
  subst em
  clear hz74
  obtain ⟨u76, tm76, em, hz76⟩ := cons_of hz75
  subst em
  clear hz75
  obtain ⟨u77, tm77, em, hz77⟩ := cons_of hz76
  subst em
  clear hz76
  obtain ⟨u78, tm78, em, hz78⟩ := cons_of hz77
  subst em
  clear hz77
  obtain ⟨u79, tm79, em, hz79⟩ := cons_of hz78
  subst em
  clear hz78
  obtain ⟨u80, tm80, em, hz80⟩ := cons_of hz79
  subst em
  clear hz79
  obtain ⟨u81, tm81, em, hz81⟩ := cons_of hz80
  subst em
  clear hz80
  obtain ⟨u82, tm82, em, hz82⟩ := cons_of hz81
  subst em
  clear hz81
  obtain ⟨u83, tm83, em, hz83⟩ := cons_of hz82
  subst em
  clear hz82
  obtain ⟨u84, tm84, em, hz84⟩ := cons_of hz83
  subst em
  clear hz83
  obtain ⟨u85, tm85, em, hz85⟩ := cons_of hz84
  subst em
  clear hz84
  obtain ⟨u86, tm86, em, hz86⟩ := cons_of hz85
  subst em
  clear hz85
  obtain ⟨u87, tm87, em, hz87⟩ := cons_of hz86
  subst em
  clear hz86
  obtain ⟨u88, tm88, em, hz88⟩ := cons_of hz87
  subst em
  clear hz87
  obtain ⟨u89, tm89, em, hz89⟩ := cons_of hz88
  subst em
  clear hz88
  obtain ⟨u90, tm90, em, hz90⟩ := cons_of hz89
  subst em
  clear hz89
  obtain ⟨u91, tm91, em, hz91⟩ := cons_of hz90
  subst em
  clear hz90
  obtain ⟨u92, tm92, em, hz92⟩ := cons_of hz91
  subst em
  clear hz91
  obtain ⟨u93, tm93, em, hz93⟩ := cons_of hz92
  subst em
  clear hz92
  obtain ⟨u94, tm94, em, hz94⟩ := cons_of hz93
  subst em
  clear hz93
  obtain ⟨u95, tm95, em, hz95⟩ := cons_of hz94
  subst em
  clear hz94
  obtain ⟨u96, tm96, em, hz96⟩ := cons_of hz95
  subst em
  clear hz95
  obtain ⟨u97, tm97, em, hz97⟩ := cons_of hz96
  subst em
  clear hz96
  obtain ⟨u98, tm98, em, hz98⟩ := cons_of hz97
  subst em
  clear hz97
  obtain ⟨u99, tm99, em, hz99⟩ := cons_of hz98
  subst em
  clear hz98
  obtain ⟨u100, tm100, em, hz100⟩ := cons_of hz99
  subst em
  clear hz99
  obtain ⟨u101, tm101, em, hz101⟩ := cons_of hz100
  subst em
  clear hz100
  obtain ⟨u102, tm102, em, hz102⟩ := cons_of hz101
  subst em
  clear hz101
  obtain ⟨u103, tm103, em, hz103⟩ := cons_of hz102
  subst em
  clear hz102
  obtain ⟨u104, tm104, em, hz104⟩ := cons_of hz103
  subst em
  clear hz103
  obtain ⟨u105, tm105, em, hz105⟩ := cons_of hz104
  subst em
  clear hz104
  obtain ⟨u106, tm106, em, hz106⟩ := cons_of hz105
  subst em
  clear hz105
  obtain ⟨u107, tm107, em, hz107⟩ := cons_of hz106
  subst em
  clear hz106
  obtain ⟨u108, tm108, em, hz108⟩ := cons_of hz107
  subst em
  clear hz107
  obtain ⟨u109, tm109, em, hz109⟩ := cons_of hz108
  subst em
  clear hz108
  obtain ⟨u110, tm110, em, hz110⟩ := cons_of hz109
  subst em
  clear hz109
  obtain ⟨u111, tm111, em, hz111⟩ := cons_of hz110
  subst em
  clear hz110
  obtain ⟨u112, tm112, em, hz112⟩ := cons_of hz111
  subst em
  clear hz111
  obtain ⟨u113, tm113, em, hz113⟩ := cons_of hz112
  subst em
  clear hz112
  obtain ⟨u114, tm114, em, hz114⟩ := cons_of hz113
  subst em
  clear hz113
  obtain ⟨u115, tm115, em, hz115⟩ := cons_of hz114
  subst em
  clear hz114
  obtain ⟨u116, tm116, em, hz116⟩ := cons_of hz115
  subst em
  clear hz115
  obtain ⟨u117, tm117, em, hz117⟩ := cons_of hz116
  subst em
  clear hz116
  obtain ⟨u118, tm118, em, hz118⟩ := cons_of hz117
  subst em
  clear hz117
  obtain ⟨u119, tm119, em, hz119⟩ := cons_of hz118
  subst em
  clear hz118
  obtain ⟨u120, tm120, em, hz120⟩ := cons_of hz119
  subst em
  clear hz119
  obtain ⟨u121, tm121, em, hz121⟩ := cons_of hz120
  subst em
  clear hz120
  obtain ⟨u122, tm122, em, hz122⟩ := cons_of hz121
  subst em
  clear hz121
  obtain ⟨u123, tm123, em, hz123⟩ := cons_of hz122
  subst em
  clear hz122
  obtain ⟨u124, tm124, em, hz124⟩ := cons_of hz123
  subst em
  clear hz123
  obtain ⟨u125, tm125, em, hz125⟩ := cons_of hz124
  subst em
  clear hz124
  obtain ⟨u126, tm126, em, hz126⟩ := cons_of hz125
  subst em
  clear hz125
  obtain ⟨u127, tm127, em, hz127⟩ := cons_of hz126
  subst em
  clear hz126
  obtain ⟨u128, tm128, em, hz128⟩ := cons_of hz127
  subst em
  clear hz127
  obtain ⟨u129, tm129, em, hz129⟩ := cons_of hz128
  subst em
  clear hz128
  obtain ⟨u130, tm130, em, hz130⟩ := cons_of hz129
  subst em
  clear hz129
  obtain ⟨u131, tm131, em, hz131⟩ := cons_of hz130
  subst em
  clear hz130
  obtain ⟨u132, tm132, em, hz132⟩ := cons_of hz131
  subst em
  clear hz131
  obtain ⟨u133, tm133, em, hz133⟩ := cons_of hz132
  subst em
  clear hz132
  obtain ⟨u134, tm134, em, hz134⟩ := cons_of hz133
  subst em
  clear hz133
  obtain ⟨u135, tm135, em, hz135⟩ := cons_of hz134
  subst em
  clear hz134
  obtain ⟨u136, tm136, em, hz136⟩ := cons_of hz135
  subst em
  clear hz135
  obtain ⟨u137, tm137, em, hz137⟩ := cons_of hz136
  subst em
  clear hz136
  obtain ⟨u138, tm138, em, hz138⟩ := cons_of hz137
  subst em
  clear hz137
  obtain ⟨u139, tm139, em, hz139⟩ := cons_of hz138
  subst em
  clear hz138
  obtain ⟨u140, tm140, em, hz140⟩ := cons_of hz139
  subst em
  clear hz139
  obtain ⟨u141, tm141, em, hz141⟩ := cons_of hz140
  subst em
  clear hz140
  obtain ⟨u142, tm142, em, hz142⟩ := cons_of hz141
  subst em
  clear hz141
  obtain ⟨u143, tm143, em, hz143⟩ := cons_of hz142
  subst em
  clear hz142
  obtain ⟨u144, tm144, em, hz144⟩ := cons_of hz143
  subst em
  clear hz143
  obtain ⟨u145, tm145, em, hz145⟩ := cons_of hz144
  subst em
  clear hz144
  obtain ⟨u146, tm146, em, hz146⟩ := cons_of hz145
  subst em
  clear hz145
  obtain ⟨u147, tm147, em, hz147⟩ := cons_of hz146
  subst em
  clear hz146
  obtain ⟨u148, tm148, em, hz148⟩ := cons_of hz147
  subst em
  clear hz147
  obtain ⟨u149, tm149, em, hz149⟩ := cons_of hz148
  subst em
  clear hz148
  obtain ⟨u150, tm150, em, hz150⟩ := cons_of hz149
  subst em
  clear hz149
  obtain ⟨u151, tm151, em, hz151⟩ := cons_of hz150
  subst em
  clear hz150
  obtain ⟨u152, tm152, em, hz152⟩ := cons_of hz151
  subst em
  clear hz151
  obtain ⟨u153, tm153, em, hz153⟩ := cons_of hz152
  subst em
  clear hz152
  obtain ⟨u154, tm154, em, hz154⟩ := cons_of hz153
  subst em
  clear hz153
  obtain ⟨u155, tm155, em, hz155⟩ := cons_of hz154
  subst em
  clear hz154
  obtain ⟨u156, tm156, em, hz156⟩ := cons_of hz155
  subst em
  clear hz155
  obtain ⟨u157, tm157, em, hz157⟩ := cons_of hz156
  subst em
  clear hz156
  obtain ⟨u158, tm158, em, hz158⟩ := cons_of hz157
  subst em
  clear hz157
  obtain ⟨u159, tm159, em, hz159⟩ := cons_of hz158
  subst em
  clear hz158
  obtain ⟨u160, tm160, em, hz160⟩ := cons_of hz159
  subst em
  clear hz159
  obtain ⟨u161, tm161, em, hz161⟩ := cons_of hz160
  subst em
  clear hz160
  obtain ⟨u162, tm162, em, hz162⟩ := cons_of hz161
  subst em
  clear hz161
  obtain ⟨u163, tm163, em, hz163⟩ := cons_of hz162
  subst em
  clear hz162
  obtain ⟨u164, tm164, em, hz164⟩ := cons_of hz163
  subst em
  clear hz163
  obtain ⟨u165, tm165, em, hz165⟩ := cons_of hz164
  subst em
  clear hz164
  obtain ⟨u166, tm166, em, hz166⟩ := cons_of hz165
  subst em
  clear hz165
  obtain ⟨u167, tm167, em, hz167⟩ := cons_of hz166
  subst em
  clear hz166
  obtain ⟨u168, tm168, em, hz168⟩ := cons_of hz167
  subst em
  clear hz167
  obtain ⟨u169, tm169, em, hz169⟩ := cons_of hz168
  subst em
  clear hz168
  obtain ⟨u170, tm170, em, hz170⟩ := cons_of hz169
  subst em
  clear hz169
  obtain ⟨u171, tm171, em, hz171⟩ := cons_of hz170
  subst em
  clear hz170
  obtain ⟨u172, tm172, em, hz172⟩ := cons_of hz171
  subst em
  clear hz171
  obtain ⟨u173, tm173, em, hz173⟩ := cons_of hz172
  subst em
  clear hz172
  obtain ⟨u174, tm174, em, hz174⟩ := cons_of hz173
  subst em
  clear hz173
  obtain ⟨u175, tm175, em, hz175⟩ := cons_of hz174
  subst em
  clear hz174
  obtain ⟨u176, tm176, em, hz176⟩ := cons_of hz175
  subst em
  clear hz175
  obtain ⟨u177, tm177, em, hz177⟩ := cons_of hz176
  subst em
  clear hz176
  obtain ⟨u178, tm178, em, hz178⟩ := cons_of hz177
  subst em
  clear hz177
  obtain ⟨u179, tm179, em, hz179⟩ := cons_of hz178
  subst em
  clear hz178
  obtain ⟨u180, tm180, em, hz180⟩ := cons_of hz179
  subst em
  clear hz179
  obtain ⟨u181, tm181, em, hz181⟩ := cons_of hz180
  subst em
  clear hz180
  have em := List.eq_nil_of_length_eq_zero hz181
  subst em
  clear hz181
  simp only [List.getElem?_cons_succ, List.getElem?_cons_zero, Option.some.injEq] at t0 t1 t2 t6 t8 t9
  subst t0 t1 t2 t6 t8 t9
  clear hsz
  subst ha
  have hl4 := hp0.own
  obtain ⟨LA4, lc4, rfl⟩ := own_shape hl4
  simp only [List.length_cons] at hp0 hl4
  have hp := Lib.hid hp0
  have HI3 := Lib.hid hi0
  clear hp0 hi0 hl4
  obtain ⟨d0, d3, d4, d5, d6, d7, d8, d9⟩ := hp.out.mb.cells
  have hi0 : w4.cell? ⟨w.heap.size, 3, none⟩ = some (.int .i64 (ca : Int)) := HI3.out.cell 3
  have hi1 : w4.cell? ⟨w.heap.size, 1, none⟩ = some (.int .i64 ix) := HI3.out.cell 1
  have g1 : w4.cell? ⟨C, ca, none⟩ = some (.int .i64 z) := by rw [hp.out.capt.cell, List.getElem?_map, HZ.out]; rfl
  have g2 : w4.frozen? ⟨C, ca, none⟩ = false := hp.out.capt.frozen ca
  simp only [Exit.then]
  go_wp2_with fail
  go_region
  have hp5 := Lib.hid (show Mn x C (.slice LA4 (s.todo.length + 1) lc4) ⟨.back ca z :: s.todo, s.met.set q true, s.caps.set ca (k : Int), s.steps + 1, s.fin⟩ ((w4.setCell ⟨C, ca, none⟩ (.int .i64 (k : Int))).drew) from (hp.out.captured ca (k : Int)).drewN 1)
  have hi5 := Lib.hid ((HI3.out.far (p := ⟨C, ca, none⟩) (HI3.out.ne_ hp.out.capt (by decide)) (.int .i64 (k : Int))).drew)
  clear hp HI3 g1 g2 hi0 hi1 d0 d3 d4 d5 d6 d7 d8 d9
  generalize (w4.setCell ⟨C, ca, none⟩ (.int .i64 (k : Int))).drew = w5 at *
  obtain ⟨d0, d3, d4, d5, d6, d7, d8, d9⟩ := hp5.out.mb.cells
  (try simp only [Exit.then])
  go_wp2_with fail
  have e0 : w5.cell? ⟨x.mb, 9, none⟩ = some (.slice LA4 (s.todo.length + 1) lc4) := d9
  have f0 : (w5.alloc (.cells #[.bool false, .int .i64 ix, .int .i64 (k : Int), .int .i64 0, .int .i64 0] 79)).cell? ⟨x.mb, 9, none⟩ = some (.slice LA4 (s.todo.length + 1) lc4) := (World.cell?_alloc_lt w5 (.cells #[.bool false, .int .i64 ix, .int .i64 (k : Int), .int .i64 0, .int .i64 0] 79) ⟨x.mb, 9, none⟩ (cell_lt e0)).trans e0
  have e1 : w5.cell? ⟨w.heap.size, 1, none⟩ = some (.int .i64 ix) := hi5.out.cell 1
  have f1 : (w5.alloc (.cells #[.bool false, .int .i64 ix, .int .i64 (k : Int), .int .i64 0, .int .i64 0] 79)).cell? ⟨w.heap.size, 1, none⟩ = some (.int .i64 ix) := (World.cell?_alloc_lt w5 (.cells #[.bool false, .int .i64 ix, .int .i64 (k : Int), .int .i64 0, .int .i64 0] 79) ⟨w.heap.size, 1, none⟩ (cell_lt e1)).trans e1
  obtain ⟨ii, hii, hz0, hz1, hz2⟩ := info_parts info_thing
  have ho2 := own_below hp5.out.own ((Below.refl _ _).alloc (Nat.le_refl _) (.cells #[.bool false, .int .i64 ix, .int .i64 (k : Int), .int .i64 0, .int .i64 0] 79))
  have hbs1 : x.w0.heap.size ≤ (w5.alloc (.cells #[.bool false, .int .i64 ix, .int .i64 (k : Int), .int .i64 0, .int .i64 0] 79)).drew.heap.size := by have := hp5.out.mb.below.size; simp; omega
  have hmb1 := Lib.hid (hp5.out.mb.mach.alloc (.cells #[.bool false, .int .i64 ix, .int .i64 (k : Int), .int .i64 0, .int .i64 0] 79))
  have hfar := hp5.out.far.2.2.1
  go_region_law (first
    | (refine step_append_lies _ rfl (.tmp 173) (.tmp 178) 47 rfl x.w0.heap.size 79 ii (.agg #[.bool false, .int .i64 0, .int .i64 0, .int .i64 0, .int .i64 0]) 5 40 Try.underlying47 hii hz0 hz1 hz2 rfl (by decide) (.slice LA4 (s.todo.length + 1) lc4) (s.todo.length + 1) (thingRow (.back ca z :: s.todo)) rfl ho2.drew ⟨w5.heap.size, 0, none⟩ 1 1 [.bool false, .int .i64 ix, .int .i64 (k : Int), .int .i64 0, .int .i64 0] rfl rfl (new_at w5 _ [.bool false, .int .i64 ix, .int .i64 (k : Int), .int .i64 0, .int .i64 0]) (by simp [Value.oneCell']) (by decide) (by unfold maxLen; omega) (by omega) hbs1 _ rfl ?_; intro g cap2 w3 hou2 hg2 hat2 hlt2; have hbq := hmb1.out.drew.grown hg2 hfar; have q1 := hbq.cell 9; have q2 := hbq.frozen 9; have q3 := hbq.lt; simp only [Mx.cells, List.getElem?_cons_succ, List.getElem?_cons_zero] at q1))
  all_goals
    go_wp2_with fail
    go_ret
    have he : eff t ⟨3, ix, iy, (ca : Int), irng⟩ k { s with met := s.met.set q true, steps := s.steps + 1 } = { s with todo := .pair ix.toNat k :: .back ca z :: s.todo, met := s.met.set q true, caps := s.caps.set ca (k : Int), steps := s.steps + 1 } := by have hzz : s.caps[ca]?.getD 0 = z := (by rw [HZ.out]; rfl); simp [eff, hzz]
    rw [he]
    have hrow : thingRow (.pair ix.toNat k :: .back ca z :: s.todo) = thingRow (.back ca z :: s.todo) ++ [.bool false, .int .i64 ix, .int .i64 (k : Int), .int .i64 0, .int .i64 0] := by
      rw [thingRow, thingVals, show ((ix.toNat : Nat) : Int) = ix from by omega]
    exact ⟨ret_bool (by rw [HF.out]; rfl), _, hp5.out.pushed _ hg2 (l := .pair ix.toNat k :: .back ca z :: s.todo) (by rw [hrow]; exact hou2)⟩

end Go.Proofs.Yteiggbbljgkloaa
