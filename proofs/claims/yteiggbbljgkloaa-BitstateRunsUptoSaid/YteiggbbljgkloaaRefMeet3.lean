/- heronref12.Machine.meet: runes, assertions -/
import Derived.Test.YteiggbbljgkloaaRefMeet1
namespace Go.Proofs.Yteiggbbljgkloaa
open Go.RowKit Go.Proofs.Yteiggbbljgkloaa.Mach

set_option maxRecDepth 100000 in
set_option maxHeartbeats 4000000 in
theorem meet_assert (x : Mx) (C : Nat) (LV : Value) (s : MS) (w : World) (t : List Int) (p : Prg) (L : List InV) (i k q : Nat) (v : InV)
    (h : Mn x C LV s w) (hf : s.fin = none) (hx : Mcx x p t L) (hv : L[i]? = some v) (hk : x.k0 ≤ k ∧ k ≤ x.nt) (hq : bitOf t x.k0 i k = q) (hq2 : q < s.met.length) (hml : s.met.length = x.N) (hst : s.steps ≤ 16777216) (hroom : s.todo.length ≤ 1000000000) (hm : s.met.getD q true = false) (hop : v.I.op = 4) (hix : 0 ≤ v.I.x) (j : Nat) (hj : j < 6) (hja : v.I.arg = ((2 ^ j : Nat) : Int))
    : Calls Try.prog 31 #[.pointer (some ⟨x.mb, 0, none⟩), .int .i64 (i : Int), .int .i64 (k : Int)] w fun e w' => MeetPost x C (eff t v.I k { s with met := s.met.set q true, steps := s.steps + 1 }) e w' := by
  obtain ⟨c0, c3, c4, c5, c6, c7, c8, c9⟩ := h.mb.cells
  have htl := hx.tl
  have hi : i < x.n := by have := hx.rp.len; have := (List.getElem?_eq_some_iff.1 hv).1; omega
  obtain ⟨pl, hpl⟩ : ∃ pl : Nat, pl = x.nt - x.k0 + 1 := ⟨_, rfl⟩
  have hk0 := hx.hk0
  have hple : (x.nt : Int) - (x.k0 : Int) + 1 = (pl : Int) := by omega
  have hntl := hx.ntl
  have hbig := hx.big
  have hmul : 0 ≤ (i : Int) * (pl : Int) ∧ (i : Int) * (pl : Int) + (k : Int) - (x.k0 : Int) = (q : Int) := by
    have e1 : (i : Int) * (pl : Int) = ((i * pl : Nat) : Int) := by norm_cast
    have e2 : i * pl + (k - x.k0) = q := by rw [← hq, hpl]; unfold bitOf places; rw [htl]
    rw [e1]; omega
  obtain ⟨hm1, hm2⟩ := hmul
  have hqN : q < x.N := by omega
  have hm3 : (i : Int) * (pl : Int) ≤ 16777216 := by omega
  have hqi : (q : Int) < (x.N : Int) := by omega
  have mfz : w.frozen? ⟨x.M, q, none⟩ = false := h.mb.met.frozen q
  have bfz : w.frozen? ⟨x.mb, 7, none⟩ = false := h.mb.mach.frozen 7
  have blt : x.mb < w.heap.size := h.mb.mach.lt
  have mlt : x.M < w.heap.size := h.mb.met.lt
  have hmq : w.cell? ⟨x.M, q, none⟩ = some (.bool (s.met.getD q true)) := by
    rw [h.mb.met.cell, List.getElem?_map, List.getD_eq_getElem?_getD, List.getElem?_eq_getElem hq2]; rfl
  have hne := h.mb.ne
  obtain ⟨ab, ao, hA, hab⟩ := hx.rp.at_ (by omega)
  have hab2 := hab
  have hrpw := hx.rp.below h.mb.below
  rw [hA] at hrpw c0
  obtain ⟨i0, i1, i2, i3, i4⟩ := hrpw.cells hv
  have hab3 : ab ≠ x.mb := by have := h.mb.loM; omega
  have hab4 : ab ≠ x.M := by have := h.mb.loN; omega
  have hn : (i : Int) < (x.n : Int) := by omega
  have H1 := Lib.hid h
  have HV := Lib.hid hv
  have HX := Lib.hid hx
  have HF := Lib.hid hf
  have HTL := Lib.hid htl
  rw [hm] at hmq
  obtain ⟨⟨op, ix, iy, iarg, irng⟩, iA, inn, ic⟩ := v
  simp only [] at hop i0 i1 i2 i3 i4
  subst hop
  simp only [] at hix hja
  obtain ⟨LA, lc, rfl⟩ := own_shape h.own
  have hbase := h.mb.below.size
  clear h hf hx hv hq hpl hm hrpw hA htl
  go_enter Try.func31, Try.ntmps31
  go_wp2_with fail
  go_quiet (fail)
  have hb2 := Lib.hid ((((H1.out.drewN nq).marked q).stepped (s.steps + 1) _ (show (s.steps : Int) + 1 = _ from by push_cast; rfl)).alloc (.cells #[.int .i64 4, .int .i64 ix, .int .i64 iy, .int .i64 iarg, .slice iA inn ic] 53))
  have HAT := Lib.hid (refAt_any x.At x.nt x.ct k x.w0.heap.size t _ (HX.out.rt.below hb2.out.mb.below) hk.2)
  have hab : ∃ z : Nat, atBits t k = (z : Int) ∧ z < 64 := by have := atBits_bd t k; exact ⟨(atBits t k).toNat, by omega, by omega⟩
  obtain ⟨z, hz, hz64⟩ := hab
  rw [hz] at HAT
  have hAS := fun u => refHolds_any j z hj hz64 u
  rw [← hja] at hAS
  have HZ := Lib.hid hz
  clear hz hz64 hja
  cases hds : decide ((z : Int) / iarg % 2 = 1) with
  | false =>
    rw [hds] at hAS
    have HAS := Lib.hid hAS
    clear hAS
    go_wp2_with (first | (go_at_call 44; refine HAT.out.mono ?_; rintro e w' ⟨rfl, rfl⟩; simp only []) | (go_at_call 45; refine (HAS.out _).mono ?_; rintro e w' ⟨rfl, rfl⟩; simp only []))
    go_ret
    have he : eff t ⟨4, ix, iy, iarg, irng⟩ k { s with met := s.met.set q true, steps := s.steps + 1 } = { s with met := s.met.set q true, steps := s.steps + 1 } := by show (if asB t k iarg then _ else _) = _; rw [asB, HZ.out, hds]; rfl
    rw [he]
    exact ⟨ret_bool (by rw [HF.out]; rfl), _, hb2.out⟩
  | true =>
    rw [hds] at hAS
    have HAS := Lib.hid hAS
    clear hAS
    go_wp2_with (first | (go_at_call 44; refine HAT.out.mono ?_; rintro e w' ⟨rfl, rfl⟩; simp only []) | (go_at_call 45; refine (HAS.out _).mono ?_; rintro e w' ⟨rfl, rfl⟩; simp only []))
    clear HAT HAS hb2
    have hb2 := Lib.hid ((((H1.out.drewN nq).marked q).stepped (s.steps + 1) _ (show (s.steps : Int) + 1 = _ from by push_cast; rfl)).alloc (.cells #[.int .i64 4, .int .i64 ix, .int .i64 iy, .int .i64 iarg, .slice iA inn ic] 53))
    have hi2 := Lib.hid (Blk.new (((w.drewN nq).setCell ⟨x.M, q, none⟩ (.bool true)).setCell ⟨x.mb, 7, none⟩ (.int .i64 ((s.steps : Int) + 1))) 53 [.int .i64 4, .int .i64 ix, .int .i64 iy, .int .i64 iarg, .slice iA inn ic])
    rw [show (((w.drewN nq).setCell ⟨x.M, q, none⟩ (.bool true)).setCell ⟨x.mb, 7, none⟩ (.int .i64 ((s.steps : Int) + 1))).heap.size = w.heap.size from by simp [World.setCell, World.drewN]] at hi2
    clear c0 c3 c4 c5 c6 c7 c8 c9 hmq mfz bfz i0 i1 i2 i3 i4 blt mlt
    generalize ((((w.drewN nq).setCell ⟨x.M, q, none⟩ (.bool true)).setCell ⟨x.mb, 7, none⟩ (.int .i64 ((s.steps : Int) + 1))).alloc (.cells #[.int .i64 4, .int .i64 ix, .int .i64 iy, .int .i64 iarg, .slice iA inn ic] 53)) = w2 at *
    obtain ⟨d0, d3, d4, d5, d6, d7, d8, d9⟩ := hb2.out.mb.cells
    have e0 : w2.cell? ⟨x.mb, 9, none⟩ = some (.slice LA s.todo.length lc) := d9
    have f0 : (w2.alloc (.cells #[.bool false, .int .i64 ix, .int .i64 (k : Int), .int .i64 0, .int .i64 0] 79)).cell? ⟨x.mb, 9, none⟩ = some (.slice LA s.todo.length lc) := (World.cell?_alloc_lt w2 (.cells #[.bool false, .int .i64 ix, .int .i64 (k : Int), .int .i64 0, .int .i64 0] 79) ⟨x.mb, 9, none⟩ (cell_lt e0)).trans e0
    have e1 : w2.cell? ⟨w.heap.size, 1, none⟩ = some (.int .i64 ix) := hi2.out.cell 1
    have f1 : (w2.alloc (.cells #[.bool false, .int .i64 ix, .int .i64 (k : Int), .int .i64 0, .int .i64 0] 79)).cell? ⟨w.heap.size, 1, none⟩ = some (.int .i64 ix) := (World.cell?_alloc_lt w2 (.cells #[.bool false, .int .i64 ix, .int .i64 (k : Int), .int .i64 0, .int .i64 0] 79) ⟨w.heap.size, 1, none⟩ (cell_lt e1)).trans e1
    obtain ⟨ii, hii, hz0, hz1, hz2⟩ := info_parts info_thing
    have ho2 := own_below hb2.out.own ((Below.refl _ _).alloc (Nat.le_refl _) (.cells #[.bool false, .int .i64 ix, .int .i64 (k : Int), .int .i64 0, .int .i64 0] 79))
    have hbs1 : x.w0.heap.size ≤ (w2.alloc (.cells #[.bool false, .int .i64 ix, .int .i64 (k : Int), .int .i64 0, .int .i64 0] 79)).drew.heap.size := by have := hb2.out.mb.below.size; simp; omega
    have hmb1 := Lib.hid (hb2.out.mb.mach.alloc (.cells #[.bool false, .int .i64 ix, .int .i64 (k : Int), .int .i64 0, .int .i64 0] 79))
    have hfar := hb2.out.far.2.2.1
    go_region_law (first
      | (refine step_append_lies _ rfl (.tmp 173) (.tmp 178) 47 rfl x.w0.heap.size 79 ii (.agg #[.bool false, .int .i64 0, .int .i64 0, .int .i64 0, .int .i64 0]) 5 40 Try.underlying47 hii hz0 hz1 hz2 rfl (by decide) (.slice LA (s.todo.length) lc) (s.todo.length) (thingRow s.todo) rfl ho2.drew ⟨w2.heap.size, 0, none⟩ 1 1 [.bool false, .int .i64 ix, .int .i64 (k : Int), .int .i64 0, .int .i64 0] rfl rfl (new_at w2 _ [.bool false, .int .i64 ix, .int .i64 (k : Int), .int .i64 0, .int .i64 0]) (by simp [Value.oneCell']) (by decide) (by unfold maxLen; omega) (by omega) hbs1 _ rfl ?_; intro g cap2 w3 hou2 hg2 hat2 hlt2; have hbq := hmb1.out.drew.grown hg2 hfar; have q1 := hbq.cell 9; have q2 := hbq.frozen 9; have q3 := hbq.lt; simp only [Mx.cells, List.getElem?_cons_succ, List.getElem?_cons_zero] at q1))
    all_goals
      go_wp2_with fail
      go_ret
      have he : eff t ⟨4, ix, iy, iarg, irng⟩ k { s with met := s.met.set q true, steps := s.steps + 1 } = { s with todo := .pair ix.toNat k :: s.todo, met := s.met.set q true, steps := s.steps + 1 } := by show (if asB t k iarg then _ else _) = _; rw [asB, HZ.out, hds]; rfl
      rw [he]
      have hrow : thingRow (.pair ix.toNat k :: s.todo) = thingRow s.todo ++ [.bool false, .int .i64 ix, .int .i64 (k : Int), .int .i64 0, .int .i64 0] := by
        rw [thingRow, thingVals, show ((ix.toNat : Nat) : Int) = ix from by omega]
      exact ⟨ret_bool (by rw [HF.out]; rfl), _, hb2.out.pushed _ hg2 (l := .pair ix.toNat k :: s.todo) (by rw [hrow]; exact hou2)⟩


set_option maxRecDepth 100000 in
set_option maxHeartbeats 4000000 in
theorem meet_rune_out (x : Mx) (C : Nat) (LV : Value) (s : MS) (w : World) (t : List Int) (p : Prg) (L : List InV) (i k q : Nat) (v : InV)
    (h : Mn x C LV s w) (hf : s.fin = none) (hx : Mcx x p t L) (hv : L[i]? = some v) (hk : x.k0 ≤ k ∧ k ≤ x.nt) (hq : bitOf t x.k0 i k = q) (hq2 : q < s.met.length) (hml : s.met.length = x.N) (hst : s.steps ≤ 16777216) (hroom : s.todo.length ≤ 1000000000) (hm : s.met.getD q true = false) (hop : v.I.op = 1) (hkn : ¬ k < x.nt)
    : Calls Try.prog 31 #[.pointer (some ⟨x.mb, 0, none⟩), .int .i64 (i : Int), .int .i64 (k : Int)] w fun e w' => MeetPost x C (eff t v.I k { s with met := s.met.set q true, steps := s.steps + 1 }) e w' := by
  obtain ⟨c0, c3, c4, c5, c6, c7, c8, c9⟩ := h.mb.cells
  have htl := hx.tl
  have hi : i < x.n := by have := hx.rp.len; have := (List.getElem?_eq_some_iff.1 hv).1; omega
  obtain ⟨pl, hpl⟩ : ∃ pl : Nat, pl = x.nt - x.k0 + 1 := ⟨_, rfl⟩
  have hk0 := hx.hk0
  have hple : (x.nt : Int) - (x.k0 : Int) + 1 = (pl : Int) := by omega
  have hntl := hx.ntl
  have hbig := hx.big
  have hmul : 0 ≤ (i : Int) * (pl : Int) ∧ (i : Int) * (pl : Int) + (k : Int) - (x.k0 : Int) = (q : Int) := by
    have e1 : (i : Int) * (pl : Int) = ((i * pl : Nat) : Int) := by norm_cast
    have e2 : i * pl + (k - x.k0) = q := by rw [← hq, hpl]; unfold bitOf places; rw [htl]
    rw [e1]; omega
  obtain ⟨hm1, hm2⟩ := hmul
  have hqN : q < x.N := by omega
  have hm3 : (i : Int) * (pl : Int) ≤ 16777216 := by omega
  have hqi : (q : Int) < (x.N : Int) := by omega
  have mfz : w.frozen? ⟨x.M, q, none⟩ = false := h.mb.met.frozen q
  have bfz : w.frozen? ⟨x.mb, 7, none⟩ = false := h.mb.mach.frozen 7
  have blt : x.mb < w.heap.size := h.mb.mach.lt
  have mlt : x.M < w.heap.size := h.mb.met.lt
  have hmq : w.cell? ⟨x.M, q, none⟩ = some (.bool (s.met.getD q true)) := by
    rw [h.mb.met.cell, List.getElem?_map, List.getD_eq_getElem?_getD, List.getElem?_eq_getElem hq2]; rfl
  have hne := h.mb.ne
  obtain ⟨ab, ao, hA, hab⟩ := hx.rp.at_ (by omega)
  have hab2 := hab
  have hrpw := hx.rp.below h.mb.below
  rw [hA] at hrpw c0
  obtain ⟨i0, i1, i2, i3, i4⟩ := hrpw.cells hv
  have hab3 : ab ≠ x.mb := by have := h.mb.loM; omega
  have hab4 : ab ≠ x.M := by have := h.mb.loN; omega
  have hn : (i : Int) < (x.n : Int) := by omega
  have H1 := Lib.hid h
  have HV := Lib.hid hv
  have HX := Lib.hid hx
  have HF := Lib.hid hf
  have HTL := Lib.hid htl
  rw [hm] at hmq
  obtain ⟨⟨op, ix, iy, iarg, irng⟩, iA, inn, ic⟩ := v
  simp only [] at hop i0 i1 i2 i3 i4
  subst hop
  have hkn2 : ¬ ((k : Int) < (x.nt : Int)) := by omega
  clear h hf hx hv hq hpl hm hrpw hA htl
  go_enter Try.func31, Try.ntmps31
  go_wp2_with fail
  go_quiet (fail)
  have hb2 := Lib.hid ((((H1.out.drewN nq).marked q).stepped (s.steps + 1) _ (show (s.steps : Int) + 1 = _ from by push_cast; rfl)).alloc (.cells #[.int .i64 1, .int .i64 ix, .int .i64 iy, .int .i64 iarg, .slice iA inn ic] 53))
  go_wp2_with fail
  generalize ((((w.drewN nq).setCell ⟨x.M, q, none⟩ (.bool true)).setCell ⟨x.mb, 7, none⟩ (.int .i64 ((s.steps : Int) + 1))).alloc (.cells #[.int .i64 1, .int .i64 ix, .int .i64 iy, .int .i64 iarg, .slice iA inn ic] 53)) = w2 at *
  obtain ⟨d0, d3, d4, d5, d6, d7, d8, d9⟩ := hb2.out.mb.cells
  go_quiet (fail)
  go_wp2_with fail
  go_ret
  have he : eff t ⟨1, ix, iy, iarg, irng⟩ k { s with met := s.met.set q true, steps := s.steps + 1 } = { s with met := s.met.set q true, steps := s.steps + 1 } := by unfold eff; rw [if_pos rfl, if_neg]; rintro ⟨h1, _⟩; rw [HTL.out] at h1; exact hkn h1
  rw [he]
  exact ⟨ret_bool (by rw [HF.out]; rfl), _, hb2.out.drewN nq⟩


set_option maxRecDepth 100000 in
set_option maxHeartbeats 4000000 in
theorem meet_rune (x : Mx) (C : Nat) (LV : Value) (s : MS) (w : World) (t : List Int) (p : Prg) (L : List InV) (i k q : Nat) (v : InV)
    (h : Mn x C LV s w) (hf : s.fin = none) (hx : Mcx x p t L) (hv : L[i]? = some v) (hk : x.k0 ≤ k ∧ k ≤ x.nt) (hq : bitOf t x.k0 i k = q) (hq2 : q < s.met.length) (hml : s.met.length = x.N) (hst : s.steps ≤ 16777216) (hroom : s.todo.length ≤ 1000000000) (hm : s.met.getD q true = false) (hop : v.I.op = 1) (hix : 0 ≤ v.I.x) (hkn : k < x.nt) (hright : rightB v.I.rng = true)
    : Calls Try.prog 31 #[.pointer (some ⟨x.mb, 0, none⟩), .int .i64 (i : Int), .int .i64 (k : Int)] w fun e w' => MeetPost x C (eff t v.I k { s with met := s.met.set q true, steps := s.steps + 1 }) e w' := by
  obtain ⟨c0, c3, c4, c5, c6, c7, c8, c9⟩ := h.mb.cells
  have htl := hx.tl
  have hi : i < x.n := by have := hx.rp.len; have := (List.getElem?_eq_some_iff.1 hv).1; omega
  obtain ⟨pl, hpl⟩ : ∃ pl : Nat, pl = x.nt - x.k0 + 1 := ⟨_, rfl⟩
  have hk0 := hx.hk0
  have hple : (x.nt : Int) - (x.k0 : Int) + 1 = (pl : Int) := by omega
  have hntl := hx.ntl
  have hbig := hx.big
  have hmul : 0 ≤ (i : Int) * (pl : Int) ∧ (i : Int) * (pl : Int) + (k : Int) - (x.k0 : Int) = (q : Int) := by
    have e1 : (i : Int) * (pl : Int) = ((i * pl : Nat) : Int) := by norm_cast
    have e2 : i * pl + (k - x.k0) = q := by rw [← hq, hpl]; unfold bitOf places; rw [htl]
    rw [e1]; omega
  obtain ⟨hm1, hm2⟩ := hmul
  have hqN : q < x.N := by omega
  have hm3 : (i : Int) * (pl : Int) ≤ 16777216 := by omega
  have hqi : (q : Int) < (x.N : Int) := by omega
  have mfz : w.frozen? ⟨x.M, q, none⟩ = false := h.mb.met.frozen q
  have bfz : w.frozen? ⟨x.mb, 7, none⟩ = false := h.mb.mach.frozen 7
  have blt : x.mb < w.heap.size := h.mb.mach.lt
  have mlt : x.M < w.heap.size := h.mb.met.lt
  have hmq : w.cell? ⟨x.M, q, none⟩ = some (.bool (s.met.getD q true)) := by
    rw [h.mb.met.cell, List.getElem?_map, List.getD_eq_getElem?_getD, List.getElem?_eq_getElem hq2]; rfl
  have hne := h.mb.ne
  obtain ⟨ab, ao, hA, hab⟩ := hx.rp.at_ (by omega)
  have hab2 := hab
  have hrpw := hx.rp.below h.mb.below
  rw [hA] at hrpw c0
  obtain ⟨i0, i1, i2, i3, i4⟩ := hrpw.cells hv
  have hab3 : ab ≠ x.mb := by have := h.mb.loM; omega
  have hab4 : ab ≠ x.M := by have := h.mb.loN; omega
  have hn : (i : Int) < (x.n : Int) := by omega
  have H1 := Lib.hid h
  have HV := Lib.hid hv
  have HX := Lib.hid hx
  have HF := Lib.hid hf
  have HTL := Lib.hid htl
  rw [hm] at hmq
  obtain ⟨⟨op, ix, iy, iarg, irng⟩, iA, inn, ic⟩ := v
  simp only [] at hop i0 i1 i2 i3 i4
  subst hop
  simp only [] at hix hright
  have hkn2 : (k : Int) < (x.nt : Int) := by omega
  obtain ⟨k1, hk1⟩ : ∃ k1 : Int, (k : Int) + 1 = k1 := ⟨_, rfl⟩
  have hk2 : k1 ≤ 4194305 := by have := hx.ntl; omega
  have hk3 : 0 ≤ k1 := by omega
  have hwr : IntKind.i64.wrap k1 = k1 := IntWalk.i64_in k1 ⟨by omega, by omega⟩
  obtain ⟨tb, to_, hTA, _⟩ := hx.rt.at_ (by omega)
  have HTA := Lib.hid hTA
  rw [hTA] at c3
  obtain ⟨LA, lc, rfl⟩ := own_shape h.own
  have hbase := h.mb.below.size
  clear h hf hx hv hq hpl hm hrpw hA hTA htl
  go_enter Try.func31, Try.ntmps31
  go_wp2_with fail
  go_quiet (fail)
  go_wp2_with fail
  have hb2 := Lib.hid ((((H1.out.drewN nq).marked q).stepped (s.steps + 1) _ (show (s.steps : Int) + 1 = _ from by push_cast; rfl)).alloc (.cells #[.int .i64 1, .int .i64 ix, .int .i64 iy, .int .i64 iarg, .slice iA inn ic] 53))
  have hi2 := Lib.hid (Blk.new (((w.drewN nq).setCell ⟨x.M, q, none⟩ (.bool true)).setCell ⟨x.mb, 7, none⟩ (.int .i64 ((s.steps : Int) + 1))) 53 [.int .i64 1, .int .i64 ix, .int .i64 iy, .int .i64 iarg, .slice iA inn ic])
  rw [show (((w.drewN nq).setCell ⟨x.M, q, none⟩ (.bool true)).setCell ⟨x.mb, 7, none⟩ (.int .i64 ((s.steps : Int) + 1))).heap.size = w.heap.size from by simp [World.setCell, World.drewN]] at hi2
  clear c0 c3 c4 c5 c6 c7 c8 c9 hmq mfz bfz i0 i1 i2 i3 i4 blt mlt
  generalize ((((w.drewN nq).setCell ⟨x.M, q, none⟩ (.bool true)).setCell ⟨x.mb, 7, none⟩ (.int .i64 ((s.steps : Int) + 1))).alloc (.cells #[.int .i64 1, .int .i64 ix, .int .i64 iy, .int .i64 iarg, .slice iA inn ic] 53)) = w2 at *
  obtain ⟨d0, d3, d4, d5, d6, d7, d8, d9⟩ := hb2.out.mb.cells
  have hrt := HX.out.rt.below hb2.out.mb.below
  have HRR := Lib.hid ((HX.out.rp.below hb2.out.mb.below).2 _ (List.mem_of_getElem? HV.out)).1
  have ht0 : w2.cell? ⟨tb, to_ + k, none⟩ = some (.int .i64 (t.getD k 0)) := by
    have hr := hrt
    rw [HTA.out] at hr
    exact text_at hr hkn
  clear hrt
  simp only [] at HRR
  rw [HTA.out] at d3
  have HHAS := Lib.hid (fun n => refHas_any iA inn ic _ (t.getD k 0) irng (w2.drewN n) (HRR.out.drewN n))
  generalize hr0 : t.getD k 0 = r0 at *
  have HR0 := Lib.hid hr0
  clear hr0
  have hi0 := hi2.out.cell 4
  simp only [List.getElem?_cons_succ, List.getElem?_cons_zero] at hi0
  go_quiet (first | (go_at_call 43; refine (HHAS.out _).mono ?_; rintro e w3 ⟨he, m, hm⟩; exact ⟨he, _, by rw [← hm, World.drewN_drewN]⟩))
  rw [hright, Bool.true_and]
  clear HHAS HRR
  have hi3 := Lib.hid (hi2.out.drewN nq)
  have hb3 := Lib.hid (hb2.out.drewN nq)
  clear hb2 hi2 d0 d3 d4 d5 d6 d7 d8 d9 ht0 hi0
  generalize w2.drewN nq = w4 at *
  obtain ⟨d0, d3, d4, d5, d6, d7, d8, d9⟩ := hb3.out.mb.cells
  cases hbm : memB irng r0 with
  | false =>
    go_wp2_with fail
    go_ret
    have he : eff t ⟨1, ix, iy, iarg, irng⟩ k { s with met := s.met.set q true, steps := s.steps + 1 } = { s with met := s.met.set q true, steps := s.steps + 1 } := by unfold eff; rw [if_pos rfl, if_neg]; rintro ⟨_, h1⟩; simp only [] at h1; rw [HR0.out, hbm] at h1; cases h1
    rw [he]
    exact ⟨ret_bool (by rw [HF.out]; rfl), _, hb3.out⟩
  | true =>
    go_wp2_with fail
    have e0 : w4.cell? ⟨x.mb, 9, none⟩ = some (.slice LA s.todo.length lc) := d9
    have f0 : (w4.alloc (.cells #[.bool false, .int .i64 ix, .int .i64 k1, .int .i64 0, .int .i64 0] 79)).cell? ⟨x.mb, 9, none⟩ = some (.slice LA s.todo.length lc) := (World.cell?_alloc_lt w4 (.cells #[.bool false, .int .i64 ix, .int .i64 k1, .int .i64 0, .int .i64 0] 79) ⟨x.mb, 9, none⟩ (cell_lt e0)).trans e0
    have e1 : w4.cell? ⟨w.heap.size, 1, none⟩ = some (.int .i64 ix) := hi3.out.cell 1
    have f1 : (w4.alloc (.cells #[.bool false, .int .i64 ix, .int .i64 k1, .int .i64 0, .int .i64 0] 79)).cell? ⟨w.heap.size, 1, none⟩ = some (.int .i64 ix) := (World.cell?_alloc_lt w4 (.cells #[.bool false, .int .i64 ix, .int .i64 k1, .int .i64 0, .int .i64 0] 79) ⟨w.heap.size, 1, none⟩ (cell_lt e1)).trans e1
    obtain ⟨ii, hii, hz0, hz1, hz2⟩ := info_parts info_thing
    have ho2 := own_below hb3.out.own ((Below.refl _ _).alloc (Nat.le_refl _) (.cells #[.bool false, .int .i64 ix, .int .i64 k1, .int .i64 0, .int .i64 0] 79))
    have hbs1 : x.w0.heap.size ≤ (w4.alloc (.cells #[.bool false, .int .i64 ix, .int .i64 k1, .int .i64 0, .int .i64 0] 79)).drew.heap.size := by have := hb3.out.mb.below.size; simp; omega
    have hmb1 := Lib.hid (hb3.out.mb.mach.alloc (.cells #[.bool false, .int .i64 ix, .int .i64 k1, .int .i64 0, .int .i64 0] 79))
    have hfar := hb3.out.far.2.2.1
    go_region_law (first
      | (refine step_append_lies _ rfl (.tmp 88) (.tmp 94) 47 rfl x.w0.heap.size 79 ii (.agg #[.bool false, .int .i64 0, .int .i64 0, .int .i64 0, .int .i64 0]) 5 40 Try.underlying47 hii hz0 hz1 hz2 rfl (by decide) (.slice LA (s.todo.length) lc) (s.todo.length) (thingRow s.todo) rfl ho2.drew ⟨w4.heap.size, 0, none⟩ 1 1 [.bool false, .int .i64 ix, .int .i64 k1, .int .i64 0, .int .i64 0] rfl rfl (new_at w4 _ [.bool false, .int .i64 ix, .int .i64 k1, .int .i64 0, .int .i64 0]) (by simp [Value.oneCell']) (by decide) (by unfold maxLen; omega) (by omega) hbs1 _ rfl ?_; intro g cap2 w3 hou2 hg2 hat2 hlt2; have hbq := hmb1.out.drew.grown hg2 hfar; have q1 := hbq.cell 9; have q2 := hbq.frozen 9; have q3 := hbq.lt; simp only [Mx.cells, List.getElem?_cons_succ, List.getElem?_cons_zero] at q1))
    all_goals
      go_wp2_with fail
      go_ret
      have he : eff t ⟨1, ix, iy, iarg, irng⟩ k { s with met := s.met.set q true, steps := s.steps + 1 } = { s with todo := .pair ix.toNat (k + 1) :: s.todo, met := s.met.set q true, steps := s.steps + 1 } := by unfold eff; rw [if_pos rfl, if_pos ⟨by rw [HTL.out]; exact hkn, by simp only []; rw [HR0.out, hbm]⟩]
      rw [he]
      have hrow : thingRow (.pair ix.toNat (k + 1) :: s.todo) = thingRow s.todo ++ [.bool false, .int .i64 ix, .int .i64 k1, .int .i64 0, .int .i64 0] := by
        rw [thingRow, thingVals, show ((ix.toNat : Nat) : Int) = ix from by omega, ← hk1]; push_cast; rfl
      exact ⟨ret_bool (by rw [HF.out]; rfl), _, hb3.out.pushed _ hg2 (l := .pair ix.toNat (k + 1) :: s.todo) (by rw [hrow]; exact hou2)⟩


set_option maxRecDepth 100000 in
set_option maxHeartbeats 4000000 in
theorem meet_cap (x : Mx) (C : Nat) (LV : Value) (s : MS) (w : World) (t : List Int) (p : Prg) (L : List InV) (i k q : Nat) (v : InV)
    (h : Mn x C LV s w) (hf : s.fin = none) (hx : Mcx x p t L) (hv : L[i]? = some v) (hk : x.k0 ≤ k ∧ k ≤ x.nt) (hq : bitOf t x.k0 i k = q) (hq2 : q < s.met.length) (hml : s.met.length = x.N) (hst : s.steps ≤ 16777216) (hroom : s.todo.length ≤ 1000000000) (hm : s.met.getD q true = false) (hop : v.I.op = 3) (hix : 0 ≤ v.I.x) (ca : Nat) (hca : v.I.arg = (ca : Int)) (hcl : ca < s.caps.length) (hcl2 : s.caps.length ≤ 1002)
    : Calls Try.prog 31 #[.pointer (some ⟨x.mb, 0, none⟩), .int .i64 (i : Int), .int .i64 (k : Int)] w fun e w' => MeetPost x C (eff t v.I k { s with met := s.met.set q true, steps := s.steps + 1 }) e w' := by
  obtain ⟨c0, c3, c4, c5, c6, c7, c8, c9⟩ := h.mb.cells
  have htl := hx.tl
  have hi : i < x.n := by have := hx.rp.len; have := (List.getElem?_eq_some_iff.1 hv).1; omega
  obtain ⟨pl, hpl⟩ : ∃ pl : Nat, pl = x.nt - x.k0 + 1 := ⟨_, rfl⟩
  have hk0 := hx.hk0
  have hple : (x.nt : Int) - (x.k0 : Int) + 1 = (pl : Int) := by omega
  have hntl := hx.ntl
  have hbig := hx.big
  have hmul : 0 ≤ (i : Int) * (pl : Int) ∧ (i : Int) * (pl : Int) + (k : Int) - (x.k0 : Int) = (q : Int) := by
    have e1 : (i : Int) * (pl : Int) = ((i * pl : Nat) : Int) := by norm_cast
    have e2 : i * pl + (k - x.k0) = q := by rw [← hq, hpl]; unfold bitOf places; rw [htl]
    rw [e1]; omega
  obtain ⟨hm1, hm2⟩ := hmul
  have hqN : q < x.N := by omega
  have hm3 : (i : Int) * (pl : Int) ≤ 16777216 := by omega
  have hqi : (q : Int) < (x.N : Int) := by omega
  have mfz : w.frozen? ⟨x.M, q, none⟩ = false := h.mb.met.frozen q
  have bfz : w.frozen? ⟨x.mb, 7, none⟩ = false := h.mb.mach.frozen 7
  have blt : x.mb < w.heap.size := h.mb.mach.lt
  have mlt : x.M < w.heap.size := h.mb.met.lt
  have hmq : w.cell? ⟨x.M, q, none⟩ = some (.bool (s.met.getD q true)) := by
    rw [h.mb.met.cell, List.getElem?_map, List.getD_eq_getElem?_getD, List.getElem?_eq_getElem hq2]; rfl
  have hne := h.mb.ne
  obtain ⟨ab, ao, hA, hab⟩ := hx.rp.at_ (by omega)
  have hab2 := hab
  have hrpw := hx.rp.below h.mb.below
  rw [hA] at hrpw c0
  obtain ⟨i0, i1, i2, i3, i4⟩ := hrpw.cells hv
  have hab3 : ab ≠ x.mb := by have := h.mb.loM; omega
  have hab4 : ab ≠ x.M := by have := h.mb.loN; omega
  have hn : (i : Int) < (x.n : Int) := by omega
  have H1 := Lib.hid h
  have HV := Lib.hid hv
  have HX := Lib.hid hx
  have HF := Lib.hid hf
  have HTL := Lib.hid htl
  rw [hm] at hmq
  obtain ⟨⟨op, ix, iy, iarg, irng⟩, iA, inn, ic⟩ := v
  simp only [] at hop i0 i1 i2 i3 i4
  subst hop
  simp only [] at hix hca
  subst hca
  have hca2 : (ca : Int) < (s.caps.length : Int) := by omega
  obtain ⟨z, hz⟩ : ∃ z, s.caps[ca]? = some z := ⟨_, List.getElem?_eq_getElem hcl⟩
  have hcz : w.cell? ⟨C, ca, none⟩ = some (.int .i64 z) := by rw [h.capt.cell, List.getElem?_map, hz]; rfl
  have HZ := Lib.hid hz
  obtain ⟨LA, lc, rfl⟩ := own_shape h.own
  have hbase := h.mb.below.size
  clear h hf hx hv hq hpl hm hrpw hA hz htl
  go_enter Try.func31, Try.ntmps31
  go_wp2_with fail
  go_quiet (fail)
  go_wp2_with fail
  have hb2 := Lib.hid ((((H1.out.drewN nq).marked q).stepped (s.steps + 1) _ (show (s.steps : Int) + 1 = _ from by push_cast; rfl)).alloc (.cells #[.int .i64 3, .int .i64 ix, .int .i64 iy, .int .i64 (ca : Int), .slice iA inn ic] 53))
  have hi2 := Lib.hid (Blk.new (((w.drewN nq).setCell ⟨x.M, q, none⟩ (.bool true)).setCell ⟨x.mb, 7, none⟩ (.int .i64 ((s.steps : Int) + 1))) 53 [.int .i64 3, .int .i64 ix, .int .i64 iy, .int .i64 (ca : Int), .slice iA inn ic])
  rw [show (((w.drewN nq).setCell ⟨x.M, q, none⟩ (.bool true)).setCell ⟨x.mb, 7, none⟩ (.int .i64 ((s.steps : Int) + 1))).heap.size = w.heap.size from by simp [World.setCell, World.drewN]] at hi2
  clear hcz c0 c3 c4 c5 c6 c7 c8 c9 hmq mfz bfz i0 i1 i2 i3 i4 blt mlt
  generalize ((((w.drewN nq).setCell ⟨x.M, q, none⟩ (.bool true)).setCell ⟨x.mb, 7, none⟩ (.int .i64 ((s.steps : Int) + 1))).alloc (.cells #[.int .i64 3, .int .i64 ix, .int .i64 iy, .int .i64 (ca : Int), .slice iA inn ic] 53)) = w2 at *
  obtain ⟨d0, d3, d4, d5, d6, d7, d8, d9⟩ := hb2.out.mb.cells
  have g1 : w2.cell? ⟨C, ca, none⟩ = some (.int .i64 z) := by rw [hb2.out.capt.cell, List.getElem?_map, HZ.out]; rfl
  have hC1 := Lib.hid (hb2.out.capt.alloc (.cells #[.bool true, .int .i64 0, .int .i64 0, .int .i64 (ca : Int), .int .i64 z] 79))
  have hi1 := Lib.hid (hi2.out.alloc (.cells #[.bool true, .int .i64 0, .int .i64 0, .int .i64 (ca : Int), .int .i64 z] 79))
  have hfC := Lib.hid hb2.out.far
  have hfI := Lib.hid (show some w.heap.size ≠ (Value.slice LA s.todo.length lc).ownBlock ∧ w.heap.size ≠ x.mb from ⟨blk_apart hb2.out.own hi2.out (by decide), hi2.out.ne_ hb2.out.mb.mach (by decide)⟩)
  have e0 : w2.cell? ⟨x.mb, 9, none⟩ = some (.slice LA s.todo.length lc) := d9
  have f0 : (w2.alloc (.cells #[.bool true, .int .i64 0, .int .i64 0, .int .i64 (ca : Int), .int .i64 z] 79)).cell? ⟨x.mb, 9, none⟩ = some (.slice LA s.todo.length lc) := (World.cell?_alloc_lt w2 (.cells #[.bool true, .int .i64 0, .int .i64 0, .int .i64 (ca : Int), .int .i64 z] 79) ⟨x.mb, 9, none⟩ (cell_lt e0)).trans e0
  have kD : w2.drew.cell? ⟨x.mb, 6, none⟩ = some (.slice (some ⟨C, 0, none⟩) s.caps.length s.caps.length) ∧ w2.drew.cell? ⟨w.heap.size, 3, none⟩ = some (.int .i64 (ca : Int)) ∧ w2.drew.cell? ⟨C, ca, none⟩ = some (.int .i64 z) := ⟨d6, hi2.out.cell 3, g1⟩
  have kE : (w2.alloc (.cells #[.bool true, .int .i64 0, .int .i64 0, .int .i64 (ca : Int), .int .i64 z] 79)).drew.cell? ⟨x.mb, 6, none⟩ = some (.slice (some ⟨C, 0, none⟩) s.caps.length s.caps.length) ∧ (w2.alloc (.cells #[.bool true, .int .i64 0, .int .i64 0, .int .i64 (ca : Int), .int .i64 z] 79)).drew.cell? ⟨w.heap.size, 3, none⟩ = some (.int .i64 (ca : Int)) ∧ (w2.alloc (.cells #[.bool true, .int .i64 0, .int .i64 0, .int .i64 (ca : Int), .int .i64 z] 79)).drew.cell? ⟨C, ca, none⟩ = some (.int .i64 z) := ⟨(World.cell?_alloc_lt w2 (.cells #[.bool true, .int .i64 0, .int .i64 0, .int .i64 (ca : Int), .int .i64 z] 79) ⟨x.mb, 6, none⟩ (cell_lt kD.1)).trans kD.1, (World.cell?_alloc_lt w2 (.cells #[.bool true, .int .i64 0, .int .i64 0, .int .i64 (ca : Int), .int .i64 z] 79) ⟨w.heap.size, 3, none⟩ (cell_lt kD.2.1)).trans kD.2.1, (World.cell?_alloc_lt w2 (.cells #[.bool true, .int .i64 0, .int .i64 0, .int .i64 (ca : Int), .int .i64 z] 79) ⟨C, ca, none⟩ (cell_lt kD.2.2)).trans kD.2.2⟩
  obtain ⟨ii, hii, hz0, hz1, hz2⟩ := info_parts info_thing
  have ho2 := own_below hb2.out.own ((Below.refl _ _).alloc (Nat.le_refl _) (.cells #[.bool true, .int .i64 0, .int .i64 0, .int .i64 (ca : Int), .int .i64 z] 79))
  have hbs1 : x.w0.heap.size ≤ (w2.alloc (.cells #[.bool true, .int .i64 0, .int .i64 0, .int .i64 (ca : Int), .int .i64 z] 79)).drew.heap.size := by have := hb2.out.mb.below.size; simp; omega
  have hmb1 := Lib.hid (hb2.out.mb.mach.alloc (.cells #[.bool true, .int .i64 0, .int .i64 0, .int .i64 (ca : Int), .int .i64 z] 79))
  have hfar := hb2.out.far.2.2.1
  go_region_held_law (fun w' => w'.cell? ⟨x.mb, 6, none⟩ = some (.slice (some ⟨C, 0, none⟩) s.caps.length s.caps.length) ∧ w'.cell? ⟨w.heap.size, 3, none⟩ = some (.int .i64 (ca : Int)) ∧ w'.cell? ⟨C, ca, none⟩ = some (.int .i64 z)) (first | exact kD | exact kE | exact kF | exact kG) (first
    | (refine step_append_lies _ rfl (.tmp 123) (.tmp 135) 47 rfl x.w0.heap.size 79 ii (.agg #[.bool false, .int .i64 0, .int .i64 0, .int .i64 0, .int .i64 0]) 5 40 Try.underlying47 hii hz0 hz1 hz2 rfl (by decide) (.slice LA (s.todo.length) lc) (s.todo.length) (thingRow s.todo) rfl ho2.drew ⟨w2.heap.size, 0, none⟩ 1 1 [.bool true, .int .i64 0, .int .i64 0, .int .i64 (ca : Int), .int .i64 z] rfl rfl (new_at w2 _ [.bool true, .int .i64 0, .int .i64 0, .int .i64 (ca : Int), .int .i64 z]) (by simp [Value.oneCell']) (by decide) (by unfold maxLen; omega) (by omega) hbs1 _ rfl ?_; intro g cap2 w3 hou2 hg2 hat2 hlt2; have hbq := hmb1.out.drew.grown hg2 hfar; have q1 := hbq.cell 9; have q2 := hbq.frozen 9; have q3 := hbq.lt; have kF : w3.cell? ⟨x.mb, 6, none⟩ = some (.slice (some ⟨C, 0, none⟩) s.caps.length s.caps.length) ∧ w3.cell? ⟨w.heap.size, 3, none⟩ = some (.int .i64 (ca : Int)) ∧ w3.cell? ⟨C, ca, none⟩ = some (.int .i64 z) := ⟨hbq.cell 6, (hi1.out.drew.grown hg2 hfI.out.1).cell 3, by rw [(hC1.out.drew.grown hg2 hfC.out.2.2.2.2).cell, List.getElem?_map, HZ.out]; rfl⟩; have kG : (w3.setCell ⟨x.mb, 9, none⟩ (.slice (some ⟨g, 0, none⟩) (s.todo.length + 1) cap2)).cell? ⟨x.mb, 6, none⟩ = some (.slice (some ⟨C, 0, none⟩) s.caps.length s.caps.length) ∧ (w3.setCell ⟨x.mb, 9, none⟩ (.slice (some ⟨g, 0, none⟩) (s.todo.length + 1) cap2)).cell? ⟨w.heap.size, 3, none⟩ = some (.int .i64 (ca : Int)) ∧ (w3.setCell ⟨x.mb, 9, none⟩ (.slice (some ⟨g, 0, none⟩) (s.todo.length + 1) cap2)).cell? ⟨C, ca, none⟩ = some (.int .i64 z) := ⟨(hbq.set_ 9 _).cell 6, ((hi1.out.drew.grown hg2 hfI.out.1).far (p := ⟨x.mb, 9, none⟩) hfI.out.2 _).cell 3, by rw [((hC1.out.drew.grown hg2 hfC.out.2.2.2.2).far (p := ⟨x.mb, 9, none⟩) hfC.out.1.symm _).cell, List.getElem?_map, HZ.out]; rfl⟩; simp only [Mx.cells, List.getElem?_cons_succ, List.getElem?_cons_zero] at q1))
  all_goals
    have hp := Lib.hid (hb2.out.pushed _ hg2 (l := .back ca z :: s.todo) (by rw [thingRow, thingVals]; exact hou2))
    have hi3 : Blk (w3.setCell ⟨x.mb, 9, none⟩ (.slice (some ⟨g, 0, none⟩) (s.todo.length + 1) cap2)) w.heap.size 53 [.int .i64 3, .int .i64 ix, .int .i64 iy, .int .i64 (ca : Int), .slice iA inn ic] :=
      ((hi2.out.alloc _).drew.grown hg2 (blk_apart hb2.out.own hi2.out (by decide))).far (p := ⟨x.mb, 9, none⟩) (hi2.out.ne_ hb2.out.mb.mach (by decide)) _
    have HI3 := Lib.hid hi3
    clear hi3 q1 q2 q3 e0 f0 kD kE kF kG d0 d3 d4 d5 d6 d7 d8 d9 g1
    generalize w3.setCell ⟨x.mb, 9, none⟩ (.slice (some ⟨g, 0, none⟩) (s.todo.length + 1) cap2) = w4 at *
    obtain ⟨d0, d3, d4, d5, d6, d7, d8, d9⟩ := hp.out.mb.cells
    have hi0 : w4.cell? ⟨w.heap.size, 3, none⟩ = some (.int .i64 (ca : Int)) := HI3.out.cell 3
    have hi1 : w4.cell? ⟨w.heap.size, 1, none⟩ = some (.int .i64 ix) := HI3.out.cell 1
    have g1 : w4.cell? ⟨C, ca, none⟩ = some (.int .i64 z) := by rw [hp.out.capt.cell, List.getElem?_map, HZ.out]; rfl
    have g2 : w4.frozen? ⟨C, ca, none⟩ = false := hp.out.capt.frozen ca
    go_wp2_with fail
    go_region
  all_goals
    have hp5 := Lib.hid (show Mn x C (.slice (some ⟨g, 0, none⟩) (s.todo.length + 1) cap2) ⟨.back ca z :: s.todo, s.met.set q true, s.caps.set ca (k : Int), s.steps + 1, s.fin⟩ ((w4.setCell ⟨C, ca, none⟩ (.int .i64 (k : Int))).drew) from (hp.out.captured ca (k : Int)).drewN 1)
    have hi5 := Lib.hid ((HI3.out.far (p := ⟨C, ca, none⟩) (HI3.out.ne_ hp.out.capt (by decide)) (.int .i64 (k : Int))).drew)
    clear hp HI3 hii hz0 hz1 hz2 ho2 hbs1 hmb1 hfar hC1 hi1 hfC hfI hbq hou2 hg2 hat2 hlt2 g1 g2 hi0 d0 d3 d4 d5 d6 d7 d8 d9
    generalize (w4.setCell ⟨C, ca, none⟩ (.int .i64 (k : Int))).drew = w5 at *
    obtain ⟨d0, d3, d4, d5, d6, d7, d8, d9⟩ := hp5.out.mb.cells
    (try simp only [Exit.then, Exit.inBlock])
    go_wp2_with fail
    have e0 : w5.cell? ⟨x.mb, 9, none⟩ = some (.slice (some ⟨g, 0, none⟩) (s.todo.length + 1) cap2) := d9
    have f0 : (w5.alloc (.cells #[.bool false, .int .i64 ix, .int .i64 (k : Int), .int .i64 0, .int .i64 0] 79)).cell? ⟨x.mb, 9, none⟩ = some (.slice (some ⟨g, 0, none⟩) (s.todo.length + 1) cap2) := (World.cell?_alloc_lt w5 (.cells #[.bool false, .int .i64 ix, .int .i64 (k : Int), .int .i64 0, .int .i64 0] 79) ⟨x.mb, 9, none⟩ (cell_lt e0)).trans e0
    have e1 : w5.cell? ⟨w.heap.size, 1, none⟩ = some (.int .i64 ix) := hi5.out.cell 1
    have f1 : (w5.alloc (.cells #[.bool false, .int .i64 ix, .int .i64 (k : Int), .int .i64 0, .int .i64 0] 79)).cell? ⟨w.heap.size, 1, none⟩ = some (.int .i64 ix) := (World.cell?_alloc_lt w5 (.cells #[.bool false, .int .i64 ix, .int .i64 (k : Int), .int .i64 0, .int .i64 0] 79) ⟨w.heap.size, 1, none⟩ (cell_lt e1)).trans e1
    obtain ⟨ii, hii, hz0, hz1, hz2⟩ := info_parts info_thing
    have ho2 := own_below hp5.out.own ((Below.refl _ _).alloc (Nat.le_refl _) (.cells #[.bool false, .int .i64 ix, .int .i64 (k : Int), .int .i64 0, .int .i64 0] 79))
    have hbs1 : x.w0.heap.size ≤ (w5.alloc (.cells #[.bool false, .int .i64 ix, .int .i64 (k : Int), .int .i64 0, .int .i64 0] 79)).drew.heap.size := by have := hp5.out.mb.below.size; simp; omega
    have hmb1 := Lib.hid (hp5.out.mb.mach.alloc (.cells #[.bool false, .int .i64 ix, .int .i64 (k : Int), .int .i64 0, .int .i64 0] 79))
    have hfar := hp5.out.far.2.2.1
    go_region_law (first
      | (refine step_append_lies _ rfl (.tmp 173) (.tmp 178) 47 rfl x.w0.heap.size 79 ii (.agg #[.bool false, .int .i64 0, .int .i64 0, .int .i64 0, .int .i64 0]) 5 40 Try.underlying47 hii hz0 hz1 hz2 rfl (by decide) (.slice (some ⟨g, 0, none⟩) (s.todo.length + 1) cap2) (s.todo.length + 1) (thingRow (.back ca z :: s.todo)) rfl ho2.drew ⟨w5.heap.size, 0, none⟩ 1 1 [.bool false, .int .i64 ix, .int .i64 (k : Int), .int .i64 0, .int .i64 0] rfl rfl (new_at w5 _ [.bool false, .int .i64 ix, .int .i64 (k : Int), .int .i64 0, .int .i64 0]) (by simp [Value.oneCell']) (by decide) (by unfold maxLen; omega) (by omega) hbs1 _ rfl ?_; intro g5 cap5 w6 hou2 hg2 hat2 hlt2; have hbq := hmb1.out.drew.grown hg2 hfar; have q1 := hbq.cell 9; have q2 := hbq.frozen 9; have q3 := hbq.lt; simp only [Mx.cells, List.getElem?_cons_succ, List.getElem?_cons_zero] at q1))
  all_goals
    go_wp2_with fail
    go_ret
    have he : eff t ⟨3, ix, iy, (ca : Int), irng⟩ k { s with met := s.met.set q true, steps := s.steps + 1 } = { s with todo := .pair ix.toNat k :: .back ca z :: s.todo, met := s.met.set q true, caps := s.caps.set ca (k : Int), steps := s.steps + 1 } := by have hzz : s.caps[ca]?.getD 0 = z := (by rw [HZ.out]; rfl); simp [eff, hzz]
    rw [he]
    have hrow : thingRow (.pair ix.toNat k :: .back ca z :: s.todo) = thingRow (.back ca z :: s.todo) ++ [.bool false, .int .i64 ix, .int .i64 (k : Int), .int .i64 0, .int .i64 0] := by
      rw [thingRow, thingVals, show ((ix.toNat : Nat) : Int) = ix from by omega]
    exact ⟨ret_bool (by rw [HF.out]; rfl), _, hp5.out.pushed _ hg2 (l := .pair ix.toNat k :: .back ca z :: s.todo) (by rw [hrow]; exact hou2)⟩

end Go.Proofs.Yteiggbbljgkloaa
