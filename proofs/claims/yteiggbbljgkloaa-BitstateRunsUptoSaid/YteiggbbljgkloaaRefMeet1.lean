/- heronref12.Machine.meet: pairs that are met, fail -/
import Derived.Test.YteiggbbljgkloaaThings
import Derived.Deep.RegionHeld3
namespace Go.Proofs.Yteiggbbljgkloaa
open Go.RowKit Go.Proofs.Yteiggbbljgkloaa.Mach

/-- What holds of what the machine is asked. -/
structure Mcx (x : Mx) (p : Prg) (t : List Int) (L : List InV) : Prop where
  rp : ReadsP x.w0 x.w0.heap.size x.A x.n x.c L
  rt : Reads x.w0 x.w0.heap.size 1 x.At x.nt x.ct (t.map (Value.int .i64))
  pi : p.insts = insL L
  chk : checkB p = true
  hk0 : x.k0 ≤ x.nt
  hN : x.N = p.insts.length * places t x.k0
  big : x.N ≤ 16777216
  ntl : x.nt ≤ 4194304
  hcaps : p.caps = x.caps
  hstart : p.start = x.start
theorem Mcx.tl {x : Mx} {p : Prg} {t : List Int} {L : List InV} (h : Mcx x p t L) : t.length = x.nt := by have := h.rt.len; simpa using this
theorem Mcx.nl {x : Mx} {p : Prg} {t : List Int} {L : List InV} (h : Mcx x p t L) : p.insts.length = x.n := by rw [h.pi, insL, List.length_map]; exact h.rp.len
def MeetPost (x : Mx) (C : Nat) (s' : MS) (e : Ending) (w' : World) : Prop := e = .returned (.bool s'.fin.isSome) ∧ ∃ LV', Mn x C LV' s' w'
theorem eff_at {t : List Int} {x : Ins} {k : Nat} {s : MS} (n : Int) (h : x.op = n) : eff t x k s = eff t { x with op := n } k s := by obtain ⟨op, a, b, c, d⟩ := x; subst h; rfl

set_option maxRecDepth 100000 in
set_option maxHeartbeats 4000000 in
theorem meet_met (x : Mx) (C : Nat) (LV : Value) (s : MS) (w : World) (t : List Int) (p : Prg) (L : List InV) (i k q : Nat) (v : InV)
    (h : Mn x C LV s w) (hf : s.fin = none) (hx : Mcx x p t L) (hv : L[i]? = some v) (hk : x.k0 ≤ k ∧ k ≤ x.nt) (hq : bitOf t x.k0 i k = q) (hq2 : q < s.met.length) (hml : s.met.length = x.N) (hst : s.steps ≤ 16777216) (hroom : s.todo.length ≤ 1000000000) (hm : s.met.getD q true = true)
    : Calls Try.prog 31 #[.pointer (some ⟨x.mb, 0, none⟩), .int .i64 (i : Int), .int .i64 (k : Int)] w fun e w' => MeetPost x C (s) e w' := by
  have _ := hroom
  have _ := hst
  obtain ⟨c0, c3, c4, c5, c6, c7, c8, c9⟩ := h.mb.cells
  have htl := hx.tl
  have hi : i < x.n := by have := hx.rp.len; have := (List.getElem?_eq_some_iff.1 hv).1; omega
  obtain ⟨pl, hpl⟩ : ∃ pl : Nat, pl = x.nt - x.k0 + 1 := ⟨_, rfl⟩
  have hk0 := hx.hk0
  have hple : (x.nt : Int) - (x.k0 : Int) + 1 = (pl : Int) := by omega
  have hntl := hx.ntl
  have hbig := hx.big
  have hmul : 0 ≤ (i : Int) * (pl : Int) ∧ (i : Int) * (pl : Int) + (k : Int) - (x.k0 : Int) = (q : Int) := by
    have e1 : (i : Int) * (pl : Int) = ((i * pl : Nat) : Int) := by norm_cast
    have e2 : i * pl + (k - x.k0) = q := by rw [← hq, hpl]; unfold bitOf places; rw [htl]
    rw [e1]; omega
  obtain ⟨hm1, hm2⟩ := hmul
  have hqN : q < x.N := by omega
  have hm3 : (i : Int) * (pl : Int) ≤ 16777216 := by omega
  have hqi : (q : Int) < (x.N : Int) := by omega
  have mfz : w.frozen? ⟨x.M, q, none⟩ = false := h.mb.met.frozen q
  have bfz : w.frozen? ⟨x.mb, 7, none⟩ = false := h.mb.mach.frozen 7
  have blt : x.mb < w.heap.size := h.mb.mach.lt
  have mlt : x.M < w.heap.size := h.mb.met.lt
  have hmq : w.cell? ⟨x.M, q, none⟩ = some (.bool (s.met.getD q true)) := by
    rw [h.mb.met.cell, List.getElem?_map, List.getD_eq_getElem?_getD, List.getElem?_eq_getElem hq2]; rfl
  have H1 := Lib.hid h
  have HF := Lib.hid hf
  rw [hm] at hmq
  clear h hf hx hv hq hpl hm htl
  go_enter Try.func31, Try.ntmps31
  go_wp2_with fail
  go_quiet (fail)
  go_wp2_with fail
  go_ret
  exact ⟨ret_bool (by rw [HF.out]; rfl), _, H1.out.drewN nq⟩

set_option maxRecDepth 100000 in
set_option maxHeartbeats 4000000 in
theorem meet_fail (x : Mx) (C : Nat) (LV : Value) (s : MS) (w : World) (t : List Int) (p : Prg) (L : List InV) (i k q : Nat) (v : InV)
    (h : Mn x C LV s w) (hf : s.fin = none) (hx : Mcx x p t L) (hv : L[i]? = some v) (hk : x.k0 ≤ k ∧ k ≤ x.nt) (hq : bitOf t x.k0 i k = q) (hq2 : q < s.met.length) (hml : s.met.length = x.N) (hst : s.steps ≤ 16777216) (hroom : s.todo.length ≤ 1000000000) (hm : s.met.getD q true = false) (hop : v.I.op = 6) 
    : Calls Try.prog 31 #[.pointer (some ⟨x.mb, 0, none⟩), .int .i64 (i : Int), .int .i64 (k : Int)] w fun e w' => MeetPost x C (eff t v.I k { s with met := s.met.set q true, steps := s.steps + 1 }) e w' := by
  have _ := hroom
  have _ := hst
  obtain ⟨c0, c3, c4, c5, c6, c7, c8, c9⟩ := h.mb.cells
  have htl := hx.tl
  have hi : i < x.n := by have := hx.rp.len; have := (List.getElem?_eq_some_iff.1 hv).1; omega
  obtain ⟨pl, hpl⟩ : ∃ pl : Nat, pl = x.nt - x.k0 + 1 := ⟨_, rfl⟩
  have hk0 := hx.hk0
  have hple : (x.nt : Int) - (x.k0 : Int) + 1 = (pl : Int) := by omega
  have hntl := hx.ntl
  have hbig := hx.big
  have hmul : 0 ≤ (i : Int) * (pl : Int) ∧ (i : Int) * (pl : Int) + (k : Int) - (x.k0 : Int) = (q : Int) := by
    have e1 : (i : Int) * (pl : Int) = ((i * pl : Nat) : Int) := by norm_cast
    have e2 : i * pl + (k - x.k0) = q := by rw [← hq, hpl]; unfold bitOf places; rw [htl]
    rw [e1]; omega
  obtain ⟨hm1, hm2⟩ := hmul
  have hqN : q < x.N := by omega
  have hm3 : (i : Int) * (pl : Int) ≤ 16777216 := by omega
  have hqi : (q : Int) < (x.N : Int) := by omega
  have mfz : w.frozen? ⟨x.M, q, none⟩ = false := h.mb.met.frozen q
  have bfz : w.frozen? ⟨x.mb, 7, none⟩ = false := h.mb.mach.frozen 7
  have blt : x.mb < w.heap.size := h.mb.mach.lt
  have mlt : x.M < w.heap.size := h.mb.met.lt
  have hmq : w.cell? ⟨x.M, q, none⟩ = some (.bool (s.met.getD q true)) := by
    rw [h.mb.met.cell, List.getElem?_map, List.getD_eq_getElem?_getD, List.getElem?_eq_getElem hq2]; rfl
  have hne := h.mb.ne
  obtain ⟨ab, ao, hA, hab⟩ := hx.rp.at_ (by omega)
  have hab2 := hab
  have hrpw := hx.rp.below h.mb.below
  rw [hA] at hrpw c0
  obtain ⟨i0, i1, i2, i3, i4⟩ := hrpw.cells hv
  have hab3 : ab ≠ x.mb := by have := h.mb.loM; omega
  have hab4 : ab ≠ x.M := by have := h.mb.loN; omega
  have hn : (i : Int) < (x.n : Int) := by omega
  have H1 := Lib.hid h
  have HV := Lib.hid hv
  have HX := Lib.hid hx
  have HF := Lib.hid hf
  have HTL := Lib.hid htl
  rw [hm] at hmq
  obtain ⟨⟨op, ix, iy, iarg, irng⟩, iA, inn, ic⟩ := v
  simp only [] at hop i0 i1 i2 i3 i4
  subst hop
  clear h hf hx hv hq hpl hm hrpw hA htl
  go_enter Try.func31, Try.ntmps31
  go_wp2_with fail
  go_quiet (fail)
  go_wp2_with fail
  go_ret
  have he : eff t ⟨6, ix, iy, iarg, irng⟩ k { s with met := s.met.set q true, steps := s.steps + 1 } = { s with met := s.met.set q true, steps := s.steps + 1 } := by simp [eff]
  rw [he]
  exact ⟨ret_bool (by rw [HF.out]; rfl), LV, (((H1.out.drewN nq).marked q).stepped (s.steps + 1) _ (by push_cast; rfl)).alloc _⟩

set_option maxRecDepth 100000 in
set_option maxHeartbeats 4000000 in
theorem meet_match (x : Mx) (C : Nat) (LV : Value) (s : MS) (w : World) (t : List Int) (p : Prg) (L : List InV) (i k q : Nat) (v : InV)
    (h : Mn x C LV s w) (hf : s.fin = none) (hx : Mcx x p t L) (hv : L[i]? = some v) (hk : x.k0 ≤ k ∧ k ≤ x.nt) (hq : bitOf t x.k0 i k = q) (hq2 : q < s.met.length) (hml : s.met.length = x.N) (hst : s.steps ≤ 16777216) (hroom : s.todo.length ≤ 1000000000) (hm : s.met.getD q true = false) (hop : v.I.op = 5) 
    : Calls Try.prog 31 #[.pointer (some ⟨x.mb, 0, none⟩), .int .i64 (i : Int), .int .i64 (k : Int)] w fun e w' => MeetPost x C (eff t v.I k { s with met := s.met.set q true, steps := s.steps + 1 }) e w' := by
  have _ := hroom
  have _ := hst
  obtain ⟨c0, c3, c4, c5, c6, c7, c8, c9⟩ := h.mb.cells
  have htl := hx.tl
  have hi : i < x.n := by have := hx.rp.len; have := (List.getElem?_eq_some_iff.1 hv).1; omega
  obtain ⟨pl, hpl⟩ : ∃ pl : Nat, pl = x.nt - x.k0 + 1 := ⟨_, rfl⟩
  have hk0 := hx.hk0
  have hple : (x.nt : Int) - (x.k0 : Int) + 1 = (pl : Int) := by omega
  have hntl := hx.ntl
  have hbig := hx.big
  have hmul : 0 ≤ (i : Int) * (pl : Int) ∧ (i : Int) * (pl : Int) + (k : Int) - (x.k0 : Int) = (q : Int) := by
    have e1 : (i : Int) * (pl : Int) = ((i * pl : Nat) : Int) := by norm_cast
    have e2 : i * pl + (k - x.k0) = q := by rw [← hq, hpl]; unfold bitOf places; rw [htl]
    rw [e1]; omega
  obtain ⟨hm1, hm2⟩ := hmul
  have hqN : q < x.N := by omega
  have hm3 : (i : Int) * (pl : Int) ≤ 16777216 := by omega
  have hqi : (q : Int) < (x.N : Int) := by omega
  have mfz : w.frozen? ⟨x.M, q, none⟩ = false := h.mb.met.frozen q
  have bfz : w.frozen? ⟨x.mb, 7, none⟩ = false := h.mb.mach.frozen 7
  have blt : x.mb < w.heap.size := h.mb.mach.lt
  have mlt : x.M < w.heap.size := h.mb.met.lt
  have hmq : w.cell? ⟨x.M, q, none⟩ = some (.bool (s.met.getD q true)) := by
    rw [h.mb.met.cell, List.getElem?_map, List.getD_eq_getElem?_getD, List.getElem?_eq_getElem hq2]; rfl
  have hne := h.mb.ne
  obtain ⟨ab, ao, hA, hab⟩ := hx.rp.at_ (by omega)
  have hab2 := hab
  have hrpw := hx.rp.below h.mb.below
  rw [hA] at hrpw c0
  obtain ⟨i0, i1, i2, i3, i4⟩ := hrpw.cells hv
  have hab3 : ab ≠ x.mb := by have := h.mb.loM; omega
  have hab4 : ab ≠ x.M := by have := h.mb.loN; omega
  have hn : (i : Int) < (x.n : Int) := by omega
  have H1 := Lib.hid h
  have HV := Lib.hid hv
  have HX := Lib.hid hx
  have HF := Lib.hid hf
  have HTL := Lib.hid htl
  rw [hm] at hmq
  obtain ⟨⟨op, ix, iy, iarg, irng⟩, iA, inn, ic⟩ := v
  simp only [] at hop i0 i1 i2 i3 i4
  subst hop
  have bfz8 : w.frozen? ⟨x.mb, 8, none⟩ = false := h.mb.mach.frozen 8
  clear h hf hx hv hq hpl hm hrpw hA htl
  go_enter Try.func31, Try.ntmps31
  go_wp2_with fail
  go_quiet (fail)
  go_wp2_with fail
  go_ret
  have he : eff t ⟨5, ix, iy, iarg, irng⟩ k { s with met := s.met.set q true, steps := s.steps + 1 } = { s with met := s.met.set q true, steps := s.steps + 1, fin := some iarg } := by simp [eff]
  rw [he]
  exact ⟨ret_bool rfl, LV, ((((H1.out.drewN nq).marked q).stepped (s.steps + 1) _ (by push_cast; rfl)).whiched iarg).alloc _⟩

set_option maxRecDepth 100000 in
set_option maxHeartbeats 4000000 in
theorem meet_nop (x : Mx) (C : Nat) (LV : Value) (s : MS) (w : World) (t : List Int) (p : Prg) (L : List InV) (i k q : Nat) (v : InV)
    (h : Mn x C LV s w) (hf : s.fin = none) (hx : Mcx x p t L) (hv : L[i]? = some v) (hk : x.k0 ≤ k ∧ k ≤ x.nt) (hq : bitOf t x.k0 i k = q) (hq2 : q < s.met.length) (hml : s.met.length = x.N) (hst : s.steps ≤ 16777216) (hroom : s.todo.length ≤ 1000000000) (hm : s.met.getD q true = false) (hop : v.I.op = 7) (hix : 0 ≤ v.I.x)
    : Calls Try.prog 31 #[.pointer (some ⟨x.mb, 0, none⟩), .int .i64 (i : Int), .int .i64 (k : Int)] w fun e w' => MeetPost x C (eff t v.I k { s with met := s.met.set q true, steps := s.steps + 1 }) e w' := by
  have _ := hroom
  have _ := hst
  obtain ⟨c0, c3, c4, c5, c6, c7, c8, c9⟩ := h.mb.cells
  have htl := hx.tl
  have hi : i < x.n := by have := hx.rp.len; have := (List.getElem?_eq_some_iff.1 hv).1; omega
  obtain ⟨pl, hpl⟩ : ∃ pl : Nat, pl = x.nt - x.k0 + 1 := ⟨_, rfl⟩
  have hk0 := hx.hk0
  have hple : (x.nt : Int) - (x.k0 : Int) + 1 = (pl : Int) := by omega
  have hntl := hx.ntl
  have hbig := hx.big
  have hmul : 0 ≤ (i : Int) * (pl : Int) ∧ (i : Int) * (pl : Int) + (k : Int) - (x.k0 : Int) = (q : Int) := by
    have e1 : (i : Int) * (pl : Int) = ((i * pl : Nat) : Int) := by norm_cast
    have e2 : i * pl + (k - x.k0) = q := by rw [← hq, hpl]; unfold bitOf places; rw [htl]
    rw [e1]; omega
  obtain ⟨hm1, hm2⟩ := hmul
  have hqN : q < x.N := by omega
  have hm3 : (i : Int) * (pl : Int) ≤ 16777216 := by omega
  have hqi : (q : Int) < (x.N : Int) := by omega
  have mfz : w.frozen? ⟨x.M, q, none⟩ = false := h.mb.met.frozen q
  have bfz : w.frozen? ⟨x.mb, 7, none⟩ = false := h.mb.mach.frozen 7
  have blt : x.mb < w.heap.size := h.mb.mach.lt
  have mlt : x.M < w.heap.size := h.mb.met.lt
  have hmq : w.cell? ⟨x.M, q, none⟩ = some (.bool (s.met.getD q true)) := by
    rw [h.mb.met.cell, List.getElem?_map, List.getD_eq_getElem?_getD, List.getElem?_eq_getElem hq2]; rfl
  have hne := h.mb.ne
  obtain ⟨ab, ao, hA, hab⟩ := hx.rp.at_ (by omega)
  have hab2 := hab
  have hrpw := hx.rp.below h.mb.below
  rw [hA] at hrpw c0
  obtain ⟨i0, i1, i2, i3, i4⟩ := hrpw.cells hv
  have hab3 : ab ≠ x.mb := by have := h.mb.loM; omega
  have hab4 : ab ≠ x.M := by have := h.mb.loN; omega
  have hn : (i : Int) < (x.n : Int) := by omega
  have H1 := Lib.hid h
  have HV := Lib.hid hv
  have HX := Lib.hid hx
  have HF := Lib.hid hf
  have HTL := Lib.hid htl
  rw [hm] at hmq
  obtain ⟨⟨op, ix, iy, iarg, irng⟩, iA, inn, ic⟩ := v
  simp only [] at hop i0 i1 i2 i3 i4
  subst hop
  simp only [] at hix
  obtain ⟨LA, lc, rfl⟩ := own_shape h.own
  have hbase := h.mb.below.size
  clear h hf hx hv hq hpl hm hrpw hA htl
  go_enter Try.func31, Try.ntmps31
  go_wp2_with fail
  go_quiet (fail)
  go_wp2_with fail
  have hb2 := Lib.hid ((((H1.out.drewN nq).marked q).stepped (s.steps + 1) _ (show (s.steps : Int) + 1 = _ from by push_cast; rfl)).alloc (.cells #[.int .i64 7, .int .i64 ix, .int .i64 iy, .int .i64 iarg, .slice iA inn ic] 53))
  have hi2 := Lib.hid (Blk.new (((w.drewN nq).setCell ⟨x.M, q, none⟩ (.bool true)).setCell ⟨x.mb, 7, none⟩ (.int .i64 ((s.steps : Int) + 1))) 53 [.int .i64 7, .int .i64 ix, .int .i64 iy, .int .i64 iarg, .slice iA inn ic])
  rw [show (((w.drewN nq).setCell ⟨x.M, q, none⟩ (.bool true)).setCell ⟨x.mb, 7, none⟩ (.int .i64 ((s.steps : Int) + 1))).heap.size = w.heap.size from by simp [World.setCell, World.drewN]] at hi2
  clear c0 c3 c4 c5 c6 c7 c8 c9 hmq mfz bfz i0 i1 i2 i3 i4 blt mlt
  generalize ((((w.drewN nq).setCell ⟨x.M, q, none⟩ (.bool true)).setCell ⟨x.mb, 7, none⟩ (.int .i64 ((s.steps : Int) + 1))).alloc (.cells #[.int .i64 7, .int .i64 ix, .int .i64 iy, .int .i64 iarg, .slice iA inn ic] 53)) = w2 at *
  obtain ⟨d0, d3, d4, d5, d6, d7, d8, d9⟩ := hb2.out.mb.cells
  have e0 : w2.cell? ⟨x.mb, 9, none⟩ = some (.slice LA s.todo.length lc) := d9
  have f0 : (w2.alloc (.cells #[.bool false, .int .i64 ix, .int .i64 (k : Int), .int .i64 0, .int .i64 0] 79)).cell? ⟨x.mb, 9, none⟩ = some (.slice LA s.todo.length lc) := (World.cell?_alloc_lt w2 (.cells #[.bool false, .int .i64 ix, .int .i64 (k : Int), .int .i64 0, .int .i64 0] 79) ⟨x.mb, 9, none⟩ (cell_lt e0)).trans e0
  have e1 : w2.cell? ⟨w.heap.size, 1, none⟩ = some (.int .i64 ix) := hi2.out.cell 1
  have f1 : (w2.alloc (.cells #[.bool false, .int .i64 ix, .int .i64 (k : Int), .int .i64 0, .int .i64 0] 79)).cell? ⟨w.heap.size, 1, none⟩ = some (.int .i64 ix) := (World.cell?_alloc_lt w2 (.cells #[.bool false, .int .i64 ix, .int .i64 (k : Int), .int .i64 0, .int .i64 0] 79) ⟨w.heap.size, 1, none⟩ (cell_lt e1)).trans e1
  obtain ⟨ii, hii, hz0, hz1, hz2⟩ := info_parts info_thing
  have ho2 := own_below hb2.out.own ((Below.refl _ _).alloc (Nat.le_refl _) (.cells #[.bool false, .int .i64 ix, .int .i64 (k : Int), .int .i64 0, .int .i64 0] 79))
  have hbs1 : x.w0.heap.size ≤ (w2.alloc (.cells #[.bool false, .int .i64 ix, .int .i64 (k : Int), .int .i64 0, .int .i64 0] 79)).drew.heap.size := by have := hb2.out.mb.below.size; simp; omega
  have hmb1 := Lib.hid (hb2.out.mb.mach.alloc (.cells #[.bool false, .int .i64 ix, .int .i64 (k : Int), .int .i64 0, .int .i64 0] 79))
  have hfar := hb2.out.far.2.2.1
  go_region_law (first
    | (refine step_append_lies _ rfl (.tmp 173) (.tmp 178) 47 rfl x.w0.heap.size 79 ii (.agg #[.bool false, .int .i64 0, .int .i64 0, .int .i64 0, .int .i64 0]) 5 40 Try.underlying47 hii hz0 hz1 hz2 rfl (by decide) (.slice LA (s.todo.length) lc) (s.todo.length) (thingRow s.todo) rfl ho2.drew ⟨w2.heap.size, 0, none⟩ 1 1 [.bool false, .int .i64 ix, .int .i64 (k : Int), .int .i64 0, .int .i64 0] rfl rfl (new_at w2 _ [.bool false, .int .i64 ix, .int .i64 (k : Int), .int .i64 0, .int .i64 0]) (by simp [Value.oneCell']) (by decide) (by unfold maxLen; omega) (by omega) hbs1 _ rfl ?_; intro g cap2 w3 hou2 hg2 hat2 hlt2; have hbq := hmb1.out.drew.grown hg2 hfar; have q1 := hbq.cell 9; have q2 := hbq.frozen 9; have q3 := hbq.lt; simp only [Mx.cells, List.getElem?_cons_succ, List.getElem?_cons_zero] at q1))
  all_goals
    go_wp2_with fail
    go_ret
    have he : eff t ⟨7, ix, iy, iarg, irng⟩ k { s with met := s.met.set q true, steps := s.steps + 1 } = { s with todo := .pair ix.toNat k :: s.todo, met := s.met.set q true, steps := s.steps + 1 } := by simp [eff]
    rw [he]
    have hrow : thingRow (.pair ix.toNat k :: s.todo) = thingRow s.todo ++ [.bool false, .int .i64 ix, .int .i64 (k : Int), .int .i64 0, .int .i64 0] := by
      rw [thingRow, thingVals, show ((ix.toNat : Nat) : Int) = ix from by omega]
    exact ⟨ret_bool (by rw [HF.out]; rfl), _, hb2.out.pushed _ hg2 (l := .pair ix.toNat k :: s.todo) (by rw [hrow]; exact hou2)⟩


set_option maxRecDepth 100000 in
set_option maxHeartbeats 4000000 in
theorem meet_alt (x : Mx) (C : Nat) (LV : Value) (s : MS) (w : World) (t : List Int) (p : Prg) (L : List InV) (i k q : Nat) (v : InV)
    (h : Mn x C LV s w) (hf : s.fin = none) (hx : Mcx x p t L) (hv : L[i]? = some v) (hk : x.k0 ≤ k ∧ k ≤ x.nt) (hq : bitOf t x.k0 i k = q) (hq2 : q < s.met.length) (hml : s.met.length = x.N) (hst : s.steps ≤ 16777216) (hroom : s.todo.length ≤ 1000000000) (hm : s.met.getD q true = false) (hop : v.I.op = 2) (hix : 0 ≤ v.I.x) (hiy : 0 ≤ v.I.y)
    : Calls Try.prog 31 #[.pointer (some ⟨x.mb, 0, none⟩), .int .i64 (i : Int), .int .i64 (k : Int)] w fun e w' => MeetPost x C (eff t v.I k { s with met := s.met.set q true, steps := s.steps + 1 }) e w' := by
  have _ := hroom
  have _ := hst
  obtain ⟨c0, c3, c4, c5, c6, c7, c8, c9⟩ := h.mb.cells
  have htl := hx.tl
  have hi : i < x.n := by have := hx.rp.len; have := (List.getElem?_eq_some_iff.1 hv).1; omega
  obtain ⟨pl, hpl⟩ : ∃ pl : Nat, pl = x.nt - x.k0 + 1 := ⟨_, rfl⟩
  have hk0 := hx.hk0
  have hple : (x.nt : Int) - (x.k0 : Int) + 1 = (pl : Int) := by omega
  have hntl := hx.ntl
  have hbig := hx.big
  have hmul : 0 ≤ (i : Int) * (pl : Int) ∧ (i : Int) * (pl : Int) + (k : Int) - (x.k0 : Int) = (q : Int) := by
    have e1 : (i : Int) * (pl : Int) = ((i * pl : Nat) : Int) := by norm_cast
    have e2 : i * pl + (k - x.k0) = q := by rw [← hq, hpl]; unfold bitOf places; rw [htl]
    rw [e1]; omega
  obtain ⟨hm1, hm2⟩ := hmul
  have hqN : q < x.N := by omega
  have hm3 : (i : Int) * (pl : Int) ≤ 16777216 := by omega
  have hqi : (q : Int) < (x.N : Int) := by omega
  have mfz : w.frozen? ⟨x.M, q, none⟩ = false := h.mb.met.frozen q
  have bfz : w.frozen? ⟨x.mb, 7, none⟩ = false := h.mb.mach.frozen 7
  have blt : x.mb < w.heap.size := h.mb.mach.lt
  have mlt : x.M < w.heap.size := h.mb.met.lt
  have hmq : w.cell? ⟨x.M, q, none⟩ = some (.bool (s.met.getD q true)) := by
    rw [h.mb.met.cell, List.getElem?_map, List.getD_eq_getElem?_getD, List.getElem?_eq_getElem hq2]; rfl
  have hne := h.mb.ne
  obtain ⟨ab, ao, hA, hab⟩ := hx.rp.at_ (by omega)
  have hab2 := hab
  have hrpw := hx.rp.below h.mb.below
  rw [hA] at hrpw c0
  obtain ⟨i0, i1, i2, i3, i4⟩ := hrpw.cells hv
  have hab3 : ab ≠ x.mb := by have := h.mb.loM; omega
  have hab4 : ab ≠ x.M := by have := h.mb.loN; omega
  have hn : (i : Int) < (x.n : Int) := by omega
  have H1 := Lib.hid h
  have HV := Lib.hid hv
  have HX := Lib.hid hx
  have HF := Lib.hid hf
  have HTL := Lib.hid htl
  rw [hm] at hmq
  obtain ⟨⟨op, ix, iy, iarg, irng⟩, iA, inn, ic⟩ := v
  simp only [] at hop i0 i1 i2 i3 i4
  subst hop
  simp only [] at hix hiy
  obtain ⟨LA, lc, rfl⟩ := own_shape h.own
  have hbase := h.mb.below.size
  clear h hf hx hv hq hpl hm hrpw hA htl
  go_enter Try.func31, Try.ntmps31
  go_wp2_with fail
  go_quiet (fail)
  go_wp2_with fail
  have hb2 := Lib.hid ((((H1.out.drewN nq).marked q).stepped (s.steps + 1) _ (show (s.steps : Int) + 1 = _ from by push_cast; rfl)).alloc (.cells #[.int .i64 2, .int .i64 ix, .int .i64 iy, .int .i64 iarg, .slice iA inn ic] 53))
  have hi2 := Lib.hid (Blk.new (((w.drewN nq).setCell ⟨x.M, q, none⟩ (.bool true)).setCell ⟨x.mb, 7, none⟩ (.int .i64 ((s.steps : Int) + 1))) 53 [.int .i64 2, .int .i64 ix, .int .i64 iy, .int .i64 iarg, .slice iA inn ic])
  rw [show (((w.drewN nq).setCell ⟨x.M, q, none⟩ (.bool true)).setCell ⟨x.mb, 7, none⟩ (.int .i64 ((s.steps : Int) + 1))).heap.size = w.heap.size from by simp [World.setCell, World.drewN]] at hi2
  clear c0 c3 c4 c5 c6 c7 c8 c9 hmq mfz bfz i0 i1 i2 i3 i4 blt mlt
  generalize ((((w.drewN nq).setCell ⟨x.M, q, none⟩ (.bool true)).setCell ⟨x.mb, 7, none⟩ (.int .i64 ((s.steps : Int) + 1))).alloc (.cells #[.int .i64 2, .int .i64 ix, .int .i64 iy, .int .i64 iarg, .slice iA inn ic] 53)) = w2 at *
  obtain ⟨d0, d3, d4, d5, d6, d7, d8, d9⟩ := hb2.out.mb.cells
  have e0 : w2.cell? ⟨x.mb, 9, none⟩ = some (.slice LA s.todo.length lc) := d9
  have f0 : (w2.alloc (.cells #[.bool false, .int .i64 iy, .int .i64 (k : Int), .int .i64 0, .int .i64 0, .bool false, .int .i64 ix, .int .i64 (k : Int), .int .i64 0, .int .i64 0] 79)).cell? ⟨x.mb, 9, none⟩ = some (.slice LA s.todo.length lc) := (World.cell?_alloc_lt w2 (.cells #[.bool false, .int .i64 iy, .int .i64 (k : Int), .int .i64 0, .int .i64 0, .bool false, .int .i64 ix, .int .i64 (k : Int), .int .i64 0, .int .i64 0] 79) ⟨x.mb, 9, none⟩ (cell_lt e0)).trans e0
  have e1 : w2.cell? ⟨w.heap.size, 1, none⟩ = some (.int .i64 ix) := hi2.out.cell 1
  have f1 : (w2.alloc (.cells #[.bool false, .int .i64 iy, .int .i64 (k : Int), .int .i64 0, .int .i64 0, .bool false, .int .i64 ix, .int .i64 (k : Int), .int .i64 0, .int .i64 0] 79)).cell? ⟨w.heap.size, 1, none⟩ = some (.int .i64 ix) := (World.cell?_alloc_lt w2 (.cells #[.bool false, .int .i64 iy, .int .i64 (k : Int), .int .i64 0, .int .i64 0, .bool false, .int .i64 ix, .int .i64 (k : Int), .int .i64 0, .int .i64 0] 79) ⟨w.heap.size, 1, none⟩ (cell_lt e1)).trans e1
  have e2 : w2.cell? ⟨w.heap.size, 2, none⟩ = some (.int .i64 iy) := hi2.out.cell 2
  have f2 : (w2.alloc (.cells #[.bool false, .int .i64 iy, .int .i64 (k : Int), .int .i64 0, .int .i64 0, .bool false, .int .i64 ix, .int .i64 (k : Int), .int .i64 0, .int .i64 0] 79)).cell? ⟨w.heap.size, 2, none⟩ = some (.int .i64 iy) := (World.cell?_alloc_lt w2 (.cells #[.bool false, .int .i64 iy, .int .i64 (k : Int), .int .i64 0, .int .i64 0, .bool false, .int .i64 ix, .int .i64 (k : Int), .int .i64 0, .int .i64 0] 79) ⟨w.heap.size, 2, none⟩ (cell_lt e2)).trans e2
  obtain ⟨ii, hii, hz0, hz1, hz2⟩ := info_parts info_thing
  have ho2 := own_below hb2.out.own ((Below.refl _ _).alloc (Nat.le_refl _) (.cells #[.bool false, .int .i64 iy, .int .i64 (k : Int), .int .i64 0, .int .i64 0, .bool false, .int .i64 ix, .int .i64 (k : Int), .int .i64 0, .int .i64 0] 79))
  have hbs1 : x.w0.heap.size ≤ (w2.alloc (.cells #[.bool false, .int .i64 iy, .int .i64 (k : Int), .int .i64 0, .int .i64 0, .bool false, .int .i64 ix, .int .i64 (k : Int), .int .i64 0, .int .i64 0] 79)).drew.heap.size := by have := hb2.out.mb.below.size; simp; omega
  have hmb1 := Lib.hid (hb2.out.mb.mach.alloc (.cells #[.bool false, .int .i64 iy, .int .i64 (k : Int), .int .i64 0, .int .i64 0, .bool false, .int .i64 ix, .int .i64 (k : Int), .int .i64 0, .int .i64 0] 79))
  have hfar := hb2.out.far.2.2.1
  go_region_law (first
    | (refine step_append_lies _ rfl (.tmp 104) (.tmp 113) 47 rfl x.w0.heap.size 79 ii (.agg #[.bool false, .int .i64 0, .int .i64 0, .int .i64 0, .int .i64 0]) 5 40 Try.underlying47 hii hz0 hz1 hz2 rfl (by decide) (.slice LA (s.todo.length) lc) (s.todo.length) (thingRow s.todo) rfl ho2.drew ⟨w2.heap.size, 0, none⟩ 2 2 [.bool false, .int .i64 iy, .int .i64 (k : Int), .int .i64 0, .int .i64 0, .bool false, .int .i64 ix, .int .i64 (k : Int), .int .i64 0, .int .i64 0] rfl rfl (new_at w2 _ [.bool false, .int .i64 iy, .int .i64 (k : Int), .int .i64 0, .int .i64 0, .bool false, .int .i64 ix, .int .i64 (k : Int), .int .i64 0, .int .i64 0]) (by simp [Value.oneCell']) (by decide) (by unfold maxLen; omega) (by omega) hbs1 _ rfl ?_; intro g cap2 w3 hou2 hg2 hat2 hlt2; have hbq := hmb1.out.drew.grown hg2 hfar; have q1 := hbq.cell 9; have q2 := hbq.frozen 9; have q3 := hbq.lt; simp only [Mx.cells, List.getElem?_cons_succ, List.getElem?_cons_zero] at q1))
  all_goals
    go_wp2_with fail
    go_ret
    have he : eff t ⟨2, ix, iy, iarg, irng⟩ k { s with met := s.met.set q true, steps := s.steps + 1 } = { s with todo := .pair ix.toNat k :: .pair iy.toNat k :: s.todo, met := s.met.set q true, steps := s.steps + 1 } := by simp [eff]
    rw [he]
    have hrow : thingRow (.pair ix.toNat k :: .pair iy.toNat k :: s.todo) = thingRow s.todo ++ [.bool false, .int .i64 iy, .int .i64 (k : Int), .int .i64 0, .int .i64 0, .bool false, .int .i64 ix, .int .i64 (k : Int), .int .i64 0, .int .i64 0] := by
      rw [thingRow, thingRow, thingVals, thingVals, show ((ix.toNat : Nat) : Int) = ix from by omega, show ((iy.toNat : Nat) : Int) = iy from by omega, List.append_assoc]; rfl
    exact ⟨ret_bool (by rw [HF.out]; rfl), _, hb2.out.pushed _ hg2 (l := .pair ix.toNat k :: .pair iy.toNat k :: s.todo) (by rw [hrow]; exact hou2)⟩

end Go.Proofs.Yteiggbbljgkloaa
