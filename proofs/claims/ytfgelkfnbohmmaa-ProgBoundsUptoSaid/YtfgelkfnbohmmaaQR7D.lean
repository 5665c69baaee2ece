/- heronref07.Reckon, Size. -/
import Derived.Test.YtfgelkfnbohmmaaQR7C
import Derived.Test.YtfgelkfnbohmmaaQGreat
import Derived.Deep.RegionHeld3
namespace Go.Proofs.Ytfgelkfnbohmmaa
open Go.RowKit Go.Proofs.Ytfgelkfnbohmmaa.Tr

def RK7 (t : Ta) : Prop := ∀ (S : Nat → Prop) (w : World), RT w S t → (∀ b, S b → b < w.heap.size) → allB t.tr = true → deep t.tr ≤ 10000 →
    Calls Try.prog 29 #[t.val] w fun e w' => e = .returned (sv7 (sumS t.tr)) ∧ Below w.heap.size w w'
section
variable {b h off : Nat} {a0 e0 a1 e1 a2 e2 a3 e3 a4 e4 a5 e5 a6 e6 a7 e7 a8 e8 : Value}
theorem keep18 (x0 x1 x2 x3 : Value) (w9 : World) (hn : ¬ (b = h + 1)) (k : w9.cell? ⟨h, 0, none⟩ = some a0 ∧ w9.cell? ⟨h, 1, none⟩ = some a1 ∧ w9.cell? ⟨h, 2, none⟩ = some a2 ∧ w9.cell? ⟨h, 3, none⟩ = some a3 ∧ w9.cell? ⟨h, 4, none⟩ = some a4 ∧ w9.cell? ⟨h, 5, none⟩ = some a5 ∧ w9.cell? ⟨h, 6, none⟩ = some a6 ∧ w9.cell? ⟨h, 7, none⟩ = some a7 ∧ w9.cell? ⟨h, 8, none⟩ = some a8 ∧ w9.cell? ⟨b, off, none⟩ = some e0 ∧ w9.cell? ⟨b, off + 1, none⟩ = some e1 ∧ w9.cell? ⟨b, off + 2, none⟩ = some e2 ∧ w9.cell? ⟨b, off + 3, none⟩ = some e3 ∧ w9.cell? ⟨b, off + 4, none⟩ = some e4 ∧ w9.cell? ⟨b, off + 5, none⟩ = some e5 ∧ w9.cell? ⟨b, off + 6, none⟩ = some e6 ∧ w9.cell? ⟨b, off + 7, none⟩ = some e7 ∧ w9.cell? ⟨b, off + 8, none⟩ = some e8) : ((((w9.setCell ⟨h + 1, 0, none⟩ x0).setCell ⟨h + 1, 1, none⟩ x1).setCell ⟨h + 1, 2, none⟩ x2).setCell ⟨h + 1, 3, none⟩ x3).cell? ⟨h, 0, none⟩ = some a0 ∧ ((((w9.setCell ⟨h + 1, 0, none⟩ x0).setCell ⟨h + 1, 1, none⟩ x1).setCell ⟨h + 1, 2, none⟩ x2).setCell ⟨h + 1, 3, none⟩ x3).cell? ⟨h, 1, none⟩ = some a1 ∧ ((((w9.setCell ⟨h + 1, 0, none⟩ x0).setCell ⟨h + 1, 1, none⟩ x1).setCell ⟨h + 1, 2, none⟩ x2).setCell ⟨h + 1, 3, none⟩ x3).cell? ⟨h, 2, none⟩ = some a2 ∧ ((((w9.setCell ⟨h + 1, 0, none⟩ x0).setCell ⟨h + 1, 1, none⟩ x1).setCell ⟨h + 1, 2, none⟩ x2).setCell ⟨h + 1, 3, none⟩ x3).cell? ⟨h, 3, none⟩ = some a3 ∧ ((((w9.setCell ⟨h + 1, 0, none⟩ x0).setCell ⟨h + 1, 1, none⟩ x1).setCell ⟨h + 1, 2, none⟩ x2).setCell ⟨h + 1, 3, none⟩ x3).cell? ⟨h, 4, none⟩ = some a4 ∧ ((((w9.setCell ⟨h + 1, 0, none⟩ x0).setCell ⟨h + 1, 1, none⟩ x1).setCell ⟨h + 1, 2, none⟩ x2).setCell ⟨h + 1, 3, none⟩ x3).cell? ⟨h, 5, none⟩ = some a5 ∧ ((((w9.setCell ⟨h + 1, 0, none⟩ x0).setCell ⟨h + 1, 1, none⟩ x1).setCell ⟨h + 1, 2, none⟩ x2).setCell ⟨h + 1, 3, none⟩ x3).cell? ⟨h, 6, none⟩ = some a6 ∧ ((((w9.setCell ⟨h + 1, 0, none⟩ x0).setCell ⟨h + 1, 1, none⟩ x1).setCell ⟨h + 1, 2, none⟩ x2).setCell ⟨h + 1, 3, none⟩ x3).cell? ⟨h, 7, none⟩ = some a7 ∧ ((((w9.setCell ⟨h + 1, 0, none⟩ x0).setCell ⟨h + 1, 1, none⟩ x1).setCell ⟨h + 1, 2, none⟩ x2).setCell ⟨h + 1, 3, none⟩ x3).cell? ⟨h, 8, none⟩ = some a8 ∧ ((((w9.setCell ⟨h + 1, 0, none⟩ x0).setCell ⟨h + 1, 1, none⟩ x1).setCell ⟨h + 1, 2, none⟩ x2).setCell ⟨h + 1, 3, none⟩ x3).cell? ⟨b, off, none⟩ = some e0 ∧ ((((w9.setCell ⟨h + 1, 0, none⟩ x0).setCell ⟨h + 1, 1, none⟩ x1).setCell ⟨h + 1, 2, none⟩ x2).setCell ⟨h + 1, 3, none⟩ x3).cell? ⟨b, off + 1, none⟩ = some e1 ∧ ((((w9.setCell ⟨h + 1, 0, none⟩ x0).setCell ⟨h + 1, 1, none⟩ x1).setCell ⟨h + 1, 2, none⟩ x2).setCell ⟨h + 1, 3, none⟩ x3).cell? ⟨b, off + 2, none⟩ = some e2 ∧ ((((w9.setCell ⟨h + 1, 0, none⟩ x0).setCell ⟨h + 1, 1, none⟩ x1).setCell ⟨h + 1, 2, none⟩ x2).setCell ⟨h + 1, 3, none⟩ x3).cell? ⟨b, off + 3, none⟩ = some e3 ∧ ((((w9.setCell ⟨h + 1, 0, none⟩ x0).setCell ⟨h + 1, 1, none⟩ x1).setCell ⟨h + 1, 2, none⟩ x2).setCell ⟨h + 1, 3, none⟩ x3).cell? ⟨b, off + 4, none⟩ = some e4 ∧ ((((w9.setCell ⟨h + 1, 0, none⟩ x0).setCell ⟨h + 1, 1, none⟩ x1).setCell ⟨h + 1, 2, none⟩ x2).setCell ⟨h + 1, 3, none⟩ x3).cell? ⟨b, off + 5, none⟩ = some e5 ∧ ((((w9.setCell ⟨h + 1, 0, none⟩ x0).setCell ⟨h + 1, 1, none⟩ x1).setCell ⟨h + 1, 2, none⟩ x2).setCell ⟨h + 1, 3, none⟩ x3).cell? ⟨b, off + 6, none⟩ = some e6 ∧ ((((w9.setCell ⟨h + 1, 0, none⟩ x0).setCell ⟨h + 1, 1, none⟩ x1).setCell ⟨h + 1, 2, none⟩ x2).setCell ⟨h + 1, 3, none⟩ x3).cell? ⟨b, off + 7, none⟩ = some e7 ∧ ((((w9.setCell ⟨h + 1, 0, none⟩ x0).setCell ⟨h + 1, 1, none⟩ x1).setCell ⟨h + 1, 2, none⟩ x2).setCell ⟨h + 1, 3, none⟩ x3).cell? ⟨b, off + 8, none⟩ = some e8 := by
  have f : ∀ (a : Addr), a.block ≠ h + 1 → ((((w9.setCell ⟨h + 1, 0, none⟩ x0).setCell ⟨h + 1, 1, none⟩ x1).setCell ⟨h + 1, 2, none⟩ x2).setCell ⟨h + 1, 3, none⟩ x3).cell? a = w9.cell? a := fun a ha => by
    rw [World.cell?_setCell_far _ _ _ _ (Ne.symm ha), World.cell?_setCell_far _ _ _ _ (Ne.symm ha), World.cell?_setCell_far _ _ _ _ (Ne.symm ha), World.cell?_setCell_far _ _ _ _ (Ne.symm ha)]
  have e : ∀ q, ((((w9.setCell ⟨h + 1, 0, none⟩ x0).setCell ⟨h + 1, 1, none⟩ x1).setCell ⟨h + 1, 2, none⟩ x2).setCell ⟨h + 1, 3, none⟩ x3).cell? ⟨h, q, none⟩ = w9.cell? ⟨h, q, none⟩ := fun q => f _ (by simp)
  have g : ∀ q, ((((w9.setCell ⟨h + 1, 0, none⟩ x0).setCell ⟨h + 1, 1, none⟩ x1).setCell ⟨h + 1, 2, none⟩ x2).setCell ⟨h + 1, 3, none⟩ x3).cell? ⟨b, q, none⟩ = w9.cell? ⟨b, q, none⟩ := fun q => f _ (by simpa using hn)
  simp only [e, g]
  exact k
end
theorem deep_pos (t : Tr.Tr) : 1 ≤ deep t := by rw [deep_subs]; omega
set_option maxRecDepth 100000 in
set_option maxHeartbeats 2000000 in
theorem rk7_group (r : List (Int × Int)) (ra : Option Addr) (rc : Nat) (ast : Int) (l : List Ta) (sa : Option Addr) (sc : Nat) (mn mx : Int) (z : Bool) (ix : Int) (nm : ByteArray) (ih : ∀ u ∈ l, RK7 u) (S : Nat → Prop) (w : World) (h : RT w S (.mk 7 r ra rc ast l sa sc mn mx z ix nm)) (hS : ∀ b, S b → b < w.heap.size) (hlen : l.length = 1) (hsub : ∀ s ∈ trs l, allB s = true ∧ deep s ≤ 10000) :
    Calls Try.prog 29 #[(Ta.mk 7 r ra rc ast l sa sc mn mx z ix nm).val] w fun e w' => e = .returned (sv7 (overS 7 ((sumsS (trs l)).headD emptyS))) ∧ Below w.heap.size w w' := by
  obtain ⟨⟨-, -, hll, -⟩, hN, hL⟩ := h.parts
  obtain ⟨b, off, rfl, hSb, _⟩ := hN.2.2.2.2 (by omega)
  obtain ⟨u, hu⟩ : ∃ u, l[0]? = some u := ⟨_, List.getElem?_eq_getElem (by omega)⟩
  have hum : u ∈ l := List.mem_of_getElem? hu
  have hhd : trs l = [u.tr] := by
    match l, hlen, hu with
    | [x], _, hu => simp at hu; subst hu; rfl
  have hlt1 : (0 : Int) < (l.length : Int) := by omega
  have hbb := hS b hSb
  have hcell : ∀ W, Below w.heap.size w W → ∀ j, j < 9 → W.cell? ⟨b, off + j, none⟩ = u.vals[j]? := fun W hW j hj => by
    have := hN.node (j := 0) (t := u) hu hj
    rw [Nat.zero_mul, Nat.zero_add] at this
    rw [← this]
    exact hW.cell (p := ⟨b, off + j, none⟩) hbb
  obtain ⟨hua, hud⟩ := hsub u.tr (by rw [hhd]; simp)
  have hIH := fun (W : World) (hW : Below w.heap.size w W) => ih u hum S W ((hL u hum).below hS hW) (fun b hb => Nat.lt_of_lt_of_le (hS b hb) hW.size) hua hud
  have hbs := sum_bounds u.tr hua
  have hcs := sum_form u.tr hua
  have hgd := simple_good u.tr hua
  rw [hhd]
  simp only [sumsS, List.headD_cons]
  have HB2 := Lib.hid (two_below w (.cells #[.int .i64 7, .slice ra r.length rc, .int .i64 ast, .slice (some ⟨b, off, none⟩) l.length sc, .int .i64 mn, .int .i64 mx, .bool z, .int .i64 ix, .string nm] 25) (.cells #[.int .i64 0, .int .i64 0, .int .i64 0, .int .i64 0] 69))
  have HN2 := Lib.hid ((Blk.new w 25 [.int .i64 7, .slice ra r.length rc, .int .i64 ast, .slice (some ⟨b, off, none⟩) l.length sc, .int .i64 mn, .int .i64 mx, .bool z, .int .i64 ix, .string nm]).alloc (.cells #[.int .i64 0, .int .i64 0, .int .i64 0, .int .i64 0] 69))
  have HR2 := Lib.hid (two_blk w (.cells #[.int .i64 7, .slice ra r.length rc, .int .i64 ast, .slice (some ⟨b, off, none⟩) l.length sc, .int .i64 mn, .int .i64 mx, .bool z, .int .i64 ix, .string nm] 25) 69 [.int .i64 0, .int .i64 0, .int .i64 0, .int .i64 0])
  obtain ⟨y, hy⟩ : ∃ q, q = sumS u.tr := ⟨_, rfl⟩
  rw [← hy] at hIH hbs hcs ⊢
  have HD1 := Lib.hid hud
  clear hu hum hhd hSb h hS hN hL ih hsub hua hy hlen
  obtain ⟨dd, hdd⟩ : ∃ q : Int, q = 2001 * (deep u.tr : Int) := ⟨_, rfl⟩
  have hdl : 1 ≤ dd ∧ dd ≤ 20010000 := by have := HD1.out; have := deep_pos u.tr; omega
  rw [← hdd] at hbs
  have HBS := Lib.hid hbs
  have HCS := Lib.hid hcs
  have HGD := Lib.hid hgd
  clear hdd HD1 hbs hcs hgd
  generalize simpleS u.tr = st at *
  cases u with
  | mk k' r' ra' rc' a' l' sa' sc' n' m' z' i' s' =>
  simp only [Ta.vals] at hcell
  simp only [Ta.val, Ta.vals] at hIH
  have HCELL := Lib.hid hcell
  have HIH := Lib.hid hIH
  clear hcell hIH
  have HIN := Lib.hid (HIH.out ((w.alloc (.cells #[.int .i64 7, .slice ra r.length rc, .int .i64 ast, .slice (some ⟨b, off, none⟩) l.length sc, .int .i64 mn, .int .i64 mx, .bool z, .int .i64 ix, .string nm] 25)).alloc (.cells #[.int .i64 0, .int .i64 0, .int .i64 0, .int .i64 0] 69)) HB2.out)
  obtain ⟨q, hq⟩ : ∃ q, q = overS 7 y := ⟨_, rfl⟩
  rw [← hq]
  have HQ := Lib.hid hq
  clear hq
  have hc := HCELL.out ((w.alloc (.cells #[.int .i64 7, .slice ra r.length rc, .int .i64 ast, .slice (some ⟨b, off, none⟩) l.length sc, .int .i64 mn, .int .i64 mx, .bool z, .int .i64 ix, .string nm] 25)).alloc (.cells #[.int .i64 0, .int .i64 0, .int .i64 0, .int .i64 0] 69)) HB2.out
  have c0 := hc 0 (by omega)
  have c1' := hc 1 (by omega)
  have c2' := hc 2 (by omega)
  have c3 := hc 3 (by omega)
  have c4 := hc 4 (by omega)
  have c5 := hc 5 (by omega)
  have c6 := hc 6 (by omega)
  have c7 := hc 7 (by omega)
  have c8 := hc 8 (by omega)
  simp only [List.getElem?_cons_zero, List.getElem?_cons_succ, Nat.add_zero] at c0 c1' c2' c3 c4 c5 c6 c7 c8
  clear hc
  have d0 : ((w.alloc (.cells #[.int .i64 7, .slice ra r.length rc, .int .i64 ast, .slice (some ⟨b, off, none⟩) l.length sc, .int .i64 mn, .int .i64 mx, .bool z, .int .i64 ix, .string nm] 25)).alloc (.cells #[.int .i64 0, .int .i64 0, .int .i64 0, .int .i64 0] 69)).cell? ⟨w.heap.size, 0, none⟩ = some (.int .i64 7) := HN2.out.cell 0
  have d1 : ((w.alloc (.cells #[.int .i64 7, .slice ra r.length rc, .int .i64 ast, .slice (some ⟨b, off, none⟩) l.length sc, .int .i64 mn, .int .i64 mx, .bool z, .int .i64 ix, .string nm] 25)).alloc (.cells #[.int .i64 0, .int .i64 0, .int .i64 0, .int .i64 0] 69)).cell? ⟨w.heap.size, 1, none⟩ = some (.slice ra r.length rc) := HN2.out.cell 1
  have d2 : ((w.alloc (.cells #[.int .i64 7, .slice ra r.length rc, .int .i64 ast, .slice (some ⟨b, off, none⟩) l.length sc, .int .i64 mn, .int .i64 mx, .bool z, .int .i64 ix, .string nm] 25)).alloc (.cells #[.int .i64 0, .int .i64 0, .int .i64 0, .int .i64 0] 69)).cell? ⟨w.heap.size, 2, none⟩ = some (.int .i64 ast) := HN2.out.cell 2
  have d3 : ((w.alloc (.cells #[.int .i64 7, .slice ra r.length rc, .int .i64 ast, .slice (some ⟨b, off, none⟩) l.length sc, .int .i64 mn, .int .i64 mx, .bool z, .int .i64 ix, .string nm] 25)).alloc (.cells #[.int .i64 0, .int .i64 0, .int .i64 0, .int .i64 0] 69)).cell? ⟨w.heap.size, 3, none⟩ = some (.slice (some ⟨b, off, none⟩) l.length sc) := HN2.out.cell 3
  have d4 : ((w.alloc (.cells #[.int .i64 7, .slice ra r.length rc, .int .i64 ast, .slice (some ⟨b, off, none⟩) l.length sc, .int .i64 mn, .int .i64 mx, .bool z, .int .i64 ix, .string nm] 25)).alloc (.cells #[.int .i64 0, .int .i64 0, .int .i64 0, .int .i64 0] 69)).cell? ⟨w.heap.size, 4, none⟩ = some (.int .i64 mn) := HN2.out.cell 4
  have d5 : ((w.alloc (.cells #[.int .i64 7, .slice ra r.length rc, .int .i64 ast, .slice (some ⟨b, off, none⟩) l.length sc, .int .i64 mn, .int .i64 mx, .bool z, .int .i64 ix, .string nm] 25)).alloc (.cells #[.int .i64 0, .int .i64 0, .int .i64 0, .int .i64 0] 69)).cell? ⟨w.heap.size, 5, none⟩ = some (.int .i64 mx) := HN2.out.cell 5
  have d6 : ((w.alloc (.cells #[.int .i64 7, .slice ra r.length rc, .int .i64 ast, .slice (some ⟨b, off, none⟩) l.length sc, .int .i64 mn, .int .i64 mx, .bool z, .int .i64 ix, .string nm] 25)).alloc (.cells #[.int .i64 0, .int .i64 0, .int .i64 0, .int .i64 0] 69)).cell? ⟨w.heap.size, 6, none⟩ = some (.bool z) := HN2.out.cell 6
  have d7 : ((w.alloc (.cells #[.int .i64 7, .slice ra r.length rc, .int .i64 ast, .slice (some ⟨b, off, none⟩) l.length sc, .int .i64 mn, .int .i64 mx, .bool z, .int .i64 ix, .string nm] 25)).alloc (.cells #[.int .i64 0, .int .i64 0, .int .i64 0, .int .i64 0] 69)).cell? ⟨w.heap.size, 7, none⟩ = some (.int .i64 ix) := HN2.out.cell 7
  have d8 : ((w.alloc (.cells #[.int .i64 7, .slice ra r.length rc, .int .i64 ast, .slice (some ⟨b, off, none⟩) l.length sc, .int .i64 mn, .int .i64 mx, .bool z, .int .i64 ix, .string nm] 25)).alloc (.cells #[.int .i64 0, .int .i64 0, .int .i64 0, .int .i64 0] 69)).cell? ⟨w.heap.size, 8, none⟩ = some (.string nm) := HN2.out.cell 8
  simp only [Ta.val, Ta.vals, sv7, smV7] at HIN ⊢
  go_enter Try.func29, Try.ntmps29
  go_wp2_with fail
  generalize ((w.alloc (.cells #[.int .i64 7, .slice ra r.length rc, .int .i64 ast, .slice (some ⟨b, off, none⟩) l.length sc, .int .i64 mn, .int .i64 mx, .bool z, .int .i64 ix, .string nm] 25)).alloc (.cells #[.int .i64 0, .int .i64 0, .int .i64 0, .int .i64 0] 69)) = w2 at *
  refine HIN.out.mono ?_
  rintro e w3 ⟨rfl, hb3⟩
  have HB3 := Lib.hid (HB2.out.trans (hb3.mono HB2.out.size))
  have HR3 := Lib.hid (HR2.out.below hb3 HR2.out.lt)
  have hov := over7_any 7 y dd w3 HBS.out (by omega)
  rw [← HQ.out] at hov
  simp only [sv7, smV7] at hov
  have HOV := Lib.hid hov
  clear hb3 hov
  simp only []
  go_wp2_with fail
  refine HOV.out.mono ?_
  rintro e w4 ⟨rfl, hb4⟩
  have HB4 := Lib.hid (HB3.out.trans (hb4.mono HB3.out.size))
  have HR4 := Lib.hid (HR3.out.below hb4 HR3.out.lt)
  have z0 : w4.cell? ⟨w.heap.size + 1, 0, none⟩ = some (.int .i64 0) := HR4.out.cell 0
  have fz0 := HR4.out.frozen 0
  have z1 : w4.cell? ⟨w.heap.size + 1, 1, none⟩ = some (.int .i64 0) := HR4.out.cell 1
  have fz1 := HR4.out.frozen 1
  have z2 : w4.cell? ⟨w.heap.size + 1, 2, none⟩ = some (.int .i64 0) := HR4.out.cell 2
  have fz2 := HR4.out.frozen 2
  have z3 : w4.cell? ⟨w.heap.size + 1, 3, none⟩ = some (.int .i64 0) := HR4.out.cell 3
  have fz3 := HR4.out.frozen 3
  have fz9 := HR4.out.lt
  clear hb4
  simp only []
  go_wp2_with fail
  refine bodyPost_ret (sum_ret rfl _ _ (w.heap.size + 1) _ _ _ _ rfl ((((HR4.out.set_ 0 (.int .i64 q.kd)).set_ 1 (.int .i64 q.nd)).set_ 2 (.int .i64 q.sb)).set_ 3 (.int .i64 q.dp))) rfl ?_
  exact ⟨rfl, Below.kept HB4.out (kept4 w4 (w.heap.size + 1) _ _ _ _) (by intro b hb; simp at hb; omega) HB4.out.size⟩
set_option maxRecDepth 100000 in
set_option maxHeartbeats 2000000 in
theorem rk7_rep (r : List (Int × Int)) (ra : Option Addr) (rc : Nat) (ast : Int) (l : List Ta) (sa : Option Addr) (sc : Nat) (mn mx : Int) (z : Bool) (ix : Int) (nm : ByteArray) (ih : ∀ u ∈ l, RK7 u) (S : Nat → Prop) (w : World) (h : RT w S (.mk 6 r ra rc ast l sa sc mn mx z ix nm)) (hS : ∀ b, S b → b < w.heap.size) (hlen : l.length = 1) (hsub : ∀ s ∈ trs l, allB s = true ∧ deep s ≤ 10000) (h0 : 0 ≤ mn ∧ mn ≤ 1000) (hm : mx = -1 ∨ (mn ≤ mx ∧ mx ≤ 1000)) :
    Calls Try.prog 29 #[(Ta.mk 6 r ra rc ast l sa sc mn mx z ix nm).val] w fun e w' => e = .returned (sv7 (repR ((sumsS (trs l)).headD emptyS) mn mx)) ∧ Below w.heap.size w w' := by
  obtain ⟨⟨-, -, hll, -⟩, hN, hL⟩ := h.parts
  obtain ⟨b, off, rfl, hSb, _⟩ := hN.2.2.2.2 (by omega)
  obtain ⟨u, hu⟩ : ∃ u, l[0]? = some u := ⟨_, List.getElem?_eq_getElem (by omega)⟩
  have hum : u ∈ l := List.mem_of_getElem? hu
  have hhd : trs l = [u.tr] := by
    match l, hlen, hu with
    | [x], _, hu => simp at hu; subst hu; rfl
  have hlt1 : (0 : Int) < (l.length : Int) := by omega
  have hbb := hS b hSb
  have hcell : ∀ W, Below w.heap.size w W → ∀ j, j < 9 → W.cell? ⟨b, off + j, none⟩ = u.vals[j]? := fun W hW j hj => by
    have := hN.node (j := 0) (t := u) hu hj
    rw [Nat.zero_mul, Nat.zero_add] at this
    rw [← this]
    exact hW.cell (p := ⟨b, off + j, none⟩) hbb
  obtain ⟨hua, hud⟩ := hsub u.tr (by rw [hhd]; simp)
  have hIH := fun (W : World) (hW : Below w.heap.size w W) => ih u hum S W ((hL u hum).below hS hW) (fun b hb => Nat.lt_of_lt_of_le (hS b hb) hW.size) hua hud
  have hbs := sum_bounds u.tr hua
  have hcs := sum_form u.tr hua
  have hgd := simple_good u.tr hua
  rw [hhd]
  simp only [sumsS, List.headD_cons]
  have HB2 := Lib.hid (two_below w (.cells #[.int .i64 6, .slice ra r.length rc, .int .i64 ast, .slice (some ⟨b, off, none⟩) l.length sc, .int .i64 mn, .int .i64 mx, .bool z, .int .i64 ix, .string nm] 25) (.cells #[.int .i64 0, .int .i64 0, .int .i64 0, .int .i64 0] 69))
  have HN2 := Lib.hid ((Blk.new w 25 [.int .i64 6, .slice ra r.length rc, .int .i64 ast, .slice (some ⟨b, off, none⟩) l.length sc, .int .i64 mn, .int .i64 mx, .bool z, .int .i64 ix, .string nm]).alloc (.cells #[.int .i64 0, .int .i64 0, .int .i64 0, .int .i64 0] 69))
  have HR2 := Lib.hid (two_blk w (.cells #[.int .i64 6, .slice ra r.length rc, .int .i64 ast, .slice (some ⟨b, off, none⟩) l.length sc, .int .i64 mn, .int .i64 mx, .bool z, .int .i64 ix, .string nm] 25) 69 [.int .i64 0, .int .i64 0, .int .i64 0, .int .i64 0])
  obtain ⟨y, hy⟩ : ∃ q, q = sumS u.tr := ⟨_, rfl⟩
  rw [← hy] at hIH hbs hcs ⊢
  have HD1 := Lib.hid hud
  clear hu hum hhd hSb h hS hN hL ih hsub hua hy hlen
  obtain ⟨dd, hdd⟩ : ∃ q : Int, q = 2001 * (deep u.tr : Int) := ⟨_, rfl⟩
  have hdl : 1 ≤ dd ∧ dd ≤ 20010000 := by have := HD1.out; have := deep_pos u.tr; omega
  rw [← hdd] at hbs
  have HBS := Lib.hid hbs
  have HCS := Lib.hid hcs
  have HGD := Lib.hid hgd
  clear hdd HD1 hbs hcs hgd
  generalize simpleS u.tr = st at *
  cases u with
  | mk k' r' ra' rc' a' l' sa' sc' n' m' z' i' s' =>
  simp only [Ta.vals] at hcell
  simp only [Ta.val, Ta.vals] at hIH
  have HCELL := Lib.hid hcell
  have HIH := Lib.hid hIH
  clear hcell hIH
  have hRP := fun (W : World) => (if hmm : mx = -1 then (by subst hmm; exact repeat7_more 6 r ra rc ast l (some ⟨b, off, none⟩) sc mn z ix nm y st dd W HBS.out HCS.out HGD.out (by omega) h0) else repeat7_some 6 r ra rc ast l (some ⟨b, off, none⟩) sc mn mx z ix nm y st dd W HBS.out HCS.out HGD.out (by omega) h0 (by omega) : Calls Try.prog 45 #[(Ta.mk 6 r ra rc ast l (some ⟨b, off, none⟩) sc mn mx z ix nm).val, sv7 y] W fun e w' => e = .returned (sv7 (repR y mn mx)) ∧ Below W.heap.size W w')
  obtain ⟨q, hq⟩ : ∃ q, q = repR y mn mx := ⟨_, rfl⟩
  simp only [← hq] at hRP ⊢
  simp only [Ta.val, Ta.vals, sv7, smV7] at hRP
  have HRP := Lib.hid hRP
  clear hRP hq hm h0
  simp only [Ta.val, Ta.vals, sv7, smV7] at HIH ⊢
  have d0 : ((w.alloc (.cells #[.int .i64 6, .slice ra r.length rc, .int .i64 ast, .slice (some ⟨b, off, none⟩) l.length sc, .int .i64 mn, .int .i64 mx, .bool z, .int .i64 ix, .string nm] 25)).alloc (.cells #[.int .i64 0, .int .i64 0, .int .i64 0, .int .i64 0] 69)).cell? ⟨w.heap.size, 0, none⟩ = some (.int .i64 6) := HN2.out.cell 0
  have d1 : ((w.alloc (.cells #[.int .i64 6, .slice ra r.length rc, .int .i64 ast, .slice (some ⟨b, off, none⟩) l.length sc, .int .i64 mn, .int .i64 mx, .bool z, .int .i64 ix, .string nm] 25)).alloc (.cells #[.int .i64 0, .int .i64 0, .int .i64 0, .int .i64 0] 69)).cell? ⟨w.heap.size, 1, none⟩ = some (.slice ra r.length rc) := HN2.out.cell 1
  have d2 : ((w.alloc (.cells #[.int .i64 6, .slice ra r.length rc, .int .i64 ast, .slice (some ⟨b, off, none⟩) l.length sc, .int .i64 mn, .int .i64 mx, .bool z, .int .i64 ix, .string nm] 25)).alloc (.cells #[.int .i64 0, .int .i64 0, .int .i64 0, .int .i64 0] 69)).cell? ⟨w.heap.size, 2, none⟩ = some (.int .i64 ast) := HN2.out.cell 2
  have d3 : ((w.alloc (.cells #[.int .i64 6, .slice ra r.length rc, .int .i64 ast, .slice (some ⟨b, off, none⟩) l.length sc, .int .i64 mn, .int .i64 mx, .bool z, .int .i64 ix, .string nm] 25)).alloc (.cells #[.int .i64 0, .int .i64 0, .int .i64 0, .int .i64 0] 69)).cell? ⟨w.heap.size, 3, none⟩ = some (.slice (some ⟨b, off, none⟩) l.length sc) := HN2.out.cell 3
  have d4 : ((w.alloc (.cells #[.int .i64 6, .slice ra r.length rc, .int .i64 ast, .slice (some ⟨b, off, none⟩) l.length sc, .int .i64 mn, .int .i64 mx, .bool z, .int .i64 ix, .string nm] 25)).alloc (.cells #[.int .i64 0, .int .i64 0, .int .i64 0, .int .i64 0] 69)).cell? ⟨w.heap.size, 4, none⟩ = some (.int .i64 mn) := HN2.out.cell 4
  have d5 : ((w.alloc (.cells #[.int .i64 6, .slice ra r.length rc, .int .i64 ast, .slice (some ⟨b, off, none⟩) l.length sc, .int .i64 mn, .int .i64 mx, .bool z, .int .i64 ix, .string nm] 25)).alloc (.cells #[.int .i64 0, .int .i64 0, .int .i64 0, .int .i64 0] 69)).cell? ⟨w.heap.size, 5, none⟩ = some (.int .i64 mx) := HN2.out.cell 5
  have d6 : ((w.alloc (.cells #[.int .i64 6, .slice ra r.length rc, .int .i64 ast, .slice (some ⟨b, off, none⟩) l.length sc, .int .i64 mn, .int .i64 mx, .bool z, .int .i64 ix, .string nm] 25)).alloc (.cells #[.int .i64 0, .int .i64 0, .int .i64 0, .int .i64 0] 69)).cell? ⟨w.heap.size, 6, none⟩ = some (.bool z) := HN2.out.cell 6
  have d7 : ((w.alloc (.cells #[.int .i64 6, .slice ra r.length rc, .int .i64 ast, .slice (some ⟨b, off, none⟩) l.length sc, .int .i64 mn, .int .i64 mx, .bool z, .int .i64 ix, .string nm] 25)).alloc (.cells #[.int .i64 0, .int .i64 0, .int .i64 0, .int .i64 0] 69)).cell? ⟨w.heap.size, 7, none⟩ = some (.int .i64 ix) := HN2.out.cell 7
  have d8 : ((w.alloc (.cells #[.int .i64 6, .slice ra r.length rc, .int .i64 ast, .slice (some ⟨b, off, none⟩) l.length sc, .int .i64 mn, .int .i64 mx, .bool z, .int .i64 ix, .string nm] 25)).alloc (.cells #[.int .i64 0, .int .i64 0, .int .i64 0, .int .i64 0] 69)).cell? ⟨w.heap.size, 8, none⟩ = some (.string nm) := HN2.out.cell 8
  go_enter Try.func29, Try.ntmps29
  go_wp2_with fail
  clear d0 d1 d2 d3 d4 d5 d6 d7 d8
  generalize ((w.alloc (.cells #[.int .i64 6, .slice ra r.length rc, .int .i64 ast, .slice (some ⟨b, off, none⟩) l.length sc, .int .i64 mn, .int .i64 mx, .bool z, .int .i64 ix, .string nm] 25)).alloc (.cells #[.int .i64 0, .int .i64 0, .int .i64 0, .int .i64 0] 69)) = w2 at *
  have hb2d := bdrewN HB2.out 1
  have HB2D := Lib.hid hb2d
  have HIN := Lib.hid (HIH.out w2.drew hb2d)
  have hc := HCELL.out w2.drew hb2d
  have c0 := hc 0 (by omega)
  have c1' := hc 1 (by omega)
  have c2' := hc 2 (by omega)
  have c3 := hc 3 (by omega)
  have c4 := hc 4 (by omega)
  have c5 := hc 5 (by omega)
  have c6 := hc 6 (by omega)
  have c7 := hc 7 (by omega)
  have c8 := hc 8 (by omega)
  simp only [List.getElem?_cons_zero, List.getElem?_cons_succ, Nat.add_zero] at c0 c1' c2' c3 c4 c5 c6 c7 c8
  clear hc
  have kA : w2.drew.cell? ⟨w.heap.size, 0, none⟩ = some (.int .i64 6) ∧ w2.drew.cell? ⟨w.heap.size, 1, none⟩ = some (.slice ra r.length rc) ∧ w2.drew.cell? ⟨w.heap.size, 2, none⟩ = some (.int .i64 ast) ∧ w2.drew.cell? ⟨w.heap.size, 3, none⟩ = some (.slice (some ⟨b, off, none⟩) l.length sc) ∧ w2.drew.cell? ⟨w.heap.size, 4, none⟩ = some (.int .i64 mn) ∧ w2.drew.cell? ⟨w.heap.size, 5, none⟩ = some (.int .i64 mx) ∧ w2.drew.cell? ⟨w.heap.size, 6, none⟩ = some (.bool z) ∧ w2.drew.cell? ⟨w.heap.size, 7, none⟩ = some (.int .i64 ix) ∧ w2.drew.cell? ⟨w.heap.size, 8, none⟩ = some (.string nm) ∧ w2.drew.cell? ⟨b, off, none⟩ = some (.int .i64 k') ∧ w2.drew.cell? ⟨b, off + 1, none⟩ = some (.slice ra' r'.length rc') ∧ w2.drew.cell? ⟨b, off + 2, none⟩ = some (.int .i64 a') ∧ w2.drew.cell? ⟨b, off + 3, none⟩ = some (.slice sa' l'.length sc') ∧ w2.drew.cell? ⟨b, off + 4, none⟩ = some (.int .i64 n') ∧ w2.drew.cell? ⟨b, off + 5, none⟩ = some (.int .i64 m') ∧ w2.drew.cell? ⟨b, off + 6, none⟩ = some (.bool z') ∧ w2.drew.cell? ⟨b, off + 7, none⟩ = some (.int .i64 i') ∧ w2.drew.cell? ⟨b, off + 8, none⟩ = some (.string s') := ⟨HN2.out.cell 0, HN2.out.cell 1, HN2.out.cell 2, HN2.out.cell 3, HN2.out.cell 4, HN2.out.cell 5, HN2.out.cell 6, HN2.out.cell 7, HN2.out.cell 8, c0, c1', c2', c3, c4, c5, c6, c7, c8⟩
  clear c0 c1' c2' c3 c4 c5 c6 c7 c8 hb2d
  have hbn : ¬ (b = w.heap.size + 1) := by omega
  have hbn2 : ¬ (b = w.heap.size) := by omega
  have hq1 : l ≠ [] := by intro h; subst h; simp at hlt1
  have hq2 : 0 < l.length := by omega
  have hq3 : (0 : Int) ≤ (l.length : Int) := by omega
  go_region_held3 (fun w' => w'.cell? ⟨w.heap.size, 0, none⟩ = some (.int .i64 6) ∧ w'.cell? ⟨w.heap.size, 1, none⟩ = some (.slice ra r.length rc) ∧ w'.cell? ⟨w.heap.size, 2, none⟩ = some (.int .i64 ast) ∧ w'.cell? ⟨w.heap.size, 3, none⟩ = some (.slice (some ⟨b, off, none⟩) l.length sc) ∧ w'.cell? ⟨w.heap.size, 4, none⟩ = some (.int .i64 mn) ∧ w'.cell? ⟨w.heap.size, 5, none⟩ = some (.int .i64 mx) ∧ w'.cell? ⟨w.heap.size, 6, none⟩ = some (.bool z) ∧ w'.cell? ⟨w.heap.size, 7, none⟩ = some (.int .i64 ix) ∧ w'.cell? ⟨w.heap.size, 8, none⟩ = some (.string nm) ∧ w'.cell? ⟨b, off, none⟩ = some (.int .i64 k') ∧ w'.cell? ⟨b, off + 1, none⟩ = some (.slice ra' r'.length rc') ∧ w'.cell? ⟨b, off + 2, none⟩ = some (.int .i64 a') ∧ w'.cell? ⟨b, off + 3, none⟩ = some (.slice sa' l'.length sc') ∧ w'.cell? ⟨b, off + 4, none⟩ = some (.int .i64 n') ∧ w'.cell? ⟨b, off + 5, none⟩ = some (.int .i64 m') ∧ w'.cell? ⟨b, off + 6, none⟩ = some (.bool z') ∧ w'.cell? ⟨b, off + 7, none⟩ = some (.int .i64 i') ∧ w'.cell? ⟨b, off + 8, none⟩ = some (.string s')) (first | with_reducible exact kA | with_reducible exact kB | with_reducible exact kC | exact keep18 _ _ _ _ _ hbn kC | go_keep) (first | (go_at_call 29; refine HIN.out.mono ?_; rintro e w3 ⟨rfl, hb3⟩; have HB3 := Lib.hid (HB2D.out.trans (hb3.mono HB2D.out.size)); have HN3 := Lib.hid (HN2.out.drew.below hb3 HN2.out.lt); have HR3 := Lib.hid (HR2.out.drew.below hb3 HR2.out.lt); have hcB := HCELL.out w3 HB3.out; have kB : w3.cell? ⟨w.heap.size, 0, none⟩ = some (.int .i64 6) ∧ w3.cell? ⟨w.heap.size, 1, none⟩ = some (.slice ra r.length rc) ∧ w3.cell? ⟨w.heap.size, 2, none⟩ = some (.int .i64 ast) ∧ w3.cell? ⟨w.heap.size, 3, none⟩ = some (.slice (some ⟨b, off, none⟩) l.length sc) ∧ w3.cell? ⟨w.heap.size, 4, none⟩ = some (.int .i64 mn) ∧ w3.cell? ⟨w.heap.size, 5, none⟩ = some (.int .i64 mx) ∧ w3.cell? ⟨w.heap.size, 6, none⟩ = some (.bool z) ∧ w3.cell? ⟨w.heap.size, 7, none⟩ = some (.int .i64 ix) ∧ w3.cell? ⟨w.heap.size, 8, none⟩ = some (.string nm) ∧ w3.cell? ⟨b, off, none⟩ = some (.int .i64 k') ∧ w3.cell? ⟨b, off + 1, none⟩ = some (.slice ra' r'.length rc') ∧ w3.cell? ⟨b, off + 2, none⟩ = some (.int .i64 a') ∧ w3.cell? ⟨b, off + 3, none⟩ = some (.slice sa' l'.length sc') ∧ w3.cell? ⟨b, off + 4, none⟩ = some (.int .i64 n') ∧ w3.cell? ⟨b, off + 5, none⟩ = some (.int .i64 m') ∧ w3.cell? ⟨b, off + 6, none⟩ = some (.bool z') ∧ w3.cell? ⟨b, off + 7, none⟩ = some (.int .i64 i') ∧ w3.cell? ⟨b, off + 8, none⟩ = some (.string s') := ⟨HN3.out.cell 0, HN3.out.cell 1, HN3.out.cell 2, HN3.out.cell 3, HN3.out.cell 4, HN3.out.cell 5, HN3.out.cell 6, HN3.out.cell 7, HN3.out.cell 8, hcB 0 (by omega), hcB 1 (by omega), hcB 2 (by omega), hcB 3 (by omega), hcB 4 (by omega), hcB 5 (by omega), hcB 6 (by omega), hcB 7 (by omega), hcB 8 (by omega)⟩; clear hb3 hcB; simp only []) | (go_at_call 45; refine (HRP.out _).mono ?_; rintro e w4 ⟨rfl, hb4⟩; have HB4 := Lib.hid (HB3.out.trans (hb4.mono HB3.out.size)); have HN4 := Lib.hid (HN3.out.below hb4 HN3.out.lt); have HR4 := Lib.hid (HR3.out.below hb4 HR3.out.lt); have hcB := HCELL.out w4 HB4.out; have kC : w4.cell? ⟨w.heap.size, 0, none⟩ = some (.int .i64 6) ∧ w4.cell? ⟨w.heap.size, 1, none⟩ = some (.slice ra r.length rc) ∧ w4.cell? ⟨w.heap.size, 2, none⟩ = some (.int .i64 ast) ∧ w4.cell? ⟨w.heap.size, 3, none⟩ = some (.slice (some ⟨b, off, none⟩) l.length sc) ∧ w4.cell? ⟨w.heap.size, 4, none⟩ = some (.int .i64 mn) ∧ w4.cell? ⟨w.heap.size, 5, none⟩ = some (.int .i64 mx) ∧ w4.cell? ⟨w.heap.size, 6, none⟩ = some (.bool z) ∧ w4.cell? ⟨w.heap.size, 7, none⟩ = some (.int .i64 ix) ∧ w4.cell? ⟨w.heap.size, 8, none⟩ = some (.string nm) ∧ w4.cell? ⟨b, off, none⟩ = some (.int .i64 k') ∧ w4.cell? ⟨b, off + 1, none⟩ = some (.slice ra' r'.length rc') ∧ w4.cell? ⟨b, off + 2, none⟩ = some (.int .i64 a') ∧ w4.cell? ⟨b, off + 3, none⟩ = some (.slice sa' l'.length sc') ∧ w4.cell? ⟨b, off + 4, none⟩ = some (.int .i64 n') ∧ w4.cell? ⟨b, off + 5, none⟩ = some (.int .i64 m') ∧ w4.cell? ⟨b, off + 6, none⟩ = some (.bool z') ∧ w4.cell? ⟨b, off + 7, none⟩ = some (.int .i64 i') ∧ w4.cell? ⟨b, off + 8, none⟩ = some (.string s') := ⟨HN4.out.cell 0, HN4.out.cell 1, HN4.out.cell 2, HN4.out.cell 3, HN4.out.cell 4, HN4.out.cell 5, HN4.out.cell 6, HN4.out.cell 7, HN4.out.cell 8, hcB 0 (by omega), hcB 1 (by omega), hcB 2 (by omega), hcB 3 (by omega), hcB 4 (by omega), hcB 5 (by omega), hcB 6 (by omega), hcB 7 (by omega), hcB 8 (by omega)⟩; have z0 : w4.cell? ⟨w.heap.size + 1, 0, none⟩ = some (.int .i64 0) := HR4.out.cell 0; have fz0 := HR4.out.frozen 0; have z1 : w4.cell? ⟨w.heap.size + 1, 1, none⟩ = some (.int .i64 0) := HR4.out.cell 1; have fz1 := HR4.out.frozen 1; have z2 : w4.cell? ⟨w.heap.size + 1, 2, none⟩ = some (.int .i64 0) := HR4.out.cell 2; have fz2 := HR4.out.frozen 2; have z3 : w4.cell? ⟨w.heap.size + 1, 3, none⟩ = some (.int .i64 0) := HR4.out.cell 3; have fz3 := HR4.out.frozen 3; have fz9 := HR4.out.lt; clear hb4 hcB; simp only []))
  go_wp2_with fail
  refine bodyPost_ret (sum_ret rfl _ _ (w.heap.size + 1) _ _ _ _ rfl ((((HR4.out.set_ 0 (.int .i64 q.kd)).set_ 1 (.int .i64 q.nd)).set_ 2 (.int .i64 q.sb)).set_ 3 (.int .i64 q.dp))) rfl ?_
  exact ⟨rfl, Below.kept HB4.out (kept4 w4 (w.heap.size + 1) _ _ _ _) (by intro b hb; simp at hb; omega) HB4.out.size⟩
/-- What stands while a row is reckoned. -/
structure RT4 (w : World) (nd : List Value) (rb : Nat) (r : Rw) (wr : World) : Prop where
  below : Below w.heap.size w wr
  node : Blk wr w.heap.size 25 nd
  res : Blk wr (w.heap.size + 1) 69 [.int .i64 0, .int .i64 0, .int .i64 0, .int .i64 0]
  row : Blk wr rb 97 (rwV7 r)
  far : w.heap.size + 1 < rb
section
variable {w wr wq : World} {nd : List Value} {rb : Nat} {r r' : Rw}
theorem RT4.bel (h : RT4 w nd rb r wr) (hb : Below wr.heap.size wr wq) : RT4 w nd rb r wq :=
  ⟨h.below.trans (hb.mono h.below.size), h.node.below hb h.node.lt, h.res.below hb h.res.lt, h.row.below hb h.row.lt, h.far⟩
theorem RT4.put (h : RT4 w nd rb r wr) (hk : Kept wr wq [rb]) (hb : Blk wq rb 97 (rwV7 r')) : RT4 w nd rb r' wq := by
  have hf := h.far
  exact ⟨Below.kept h.below hk (by intro b hb; simp at hb; omega) h.below.size, h.node.kept hk (by simp; omega), h.res.kept hk (by simp; omega), hb, hf⟩
theorem rt_start (w : World) (nd : List Value) : RT4 w nd (w.heap.size + 1 + 1) rw0 (((w.alloc (.cells nd.toArray 25)).alloc (.cells #[.int .i64 0, .int .i64 0, .int .i64 0, .int .i64 0] 69)).alloc (.cells #[.int .i64 0, .int .i64 0, .int .i64 0, .int .i64 0, .int .i64 0, .int .i64 0, .int .i64 0] 97)) := by
  have hs1 : (w.alloc (.cells nd.toArray 25)).heap.size = w.heap.size + 1 := by simp
  have hs2 : ((w.alloc (.cells nd.toArray 25)).alloc (.cells #[.int .i64 0, .int .i64 0, .int .i64 0, .int .i64 0] 69)).heap.size = w.heap.size + 1 + 1 := by simp
  have a1 := Blk.new w 25 nd
  have a3 := Blk.new (w.alloc (.cells nd.toArray 25)) 69 [.int .i64 0, .int .i64 0, .int .i64 0, .int .i64 0]
  rw [hs1] at a3
  have a4 := Blk.new ((w.alloc (.cells nd.toArray 25)).alloc (.cells #[.int .i64 0, .int .i64 0, .int .i64 0, .int .i64 0] 69)) 97 [.int .i64 0, .int .i64 0, .int .i64 0, .int .i64 0, .int .i64 0, .int .i64 0, .int .i64 0]
  rw [hs2] at a4
  exact ⟨((((Below.refl _ _).alloc (Nat.le_refl _) _).alloc (by simp) _).alloc (by simp <;> omega) _), (a1.alloc _).alloc _, a3.alloc _, a4, by omega⟩
end
set_option maxRecDepth 100000 in
set_option maxHeartbeats 2000000 in
theorem rk7_cat (r : List (Int × Int)) (ra : Option Addr) (rc : Nat) (ast : Int) (l : List Ta) (sa : Option Addr) (sc : Nat) (mn mx : Int) (z : Bool) (ix : Int) (nm : ByteArray) (ih : ∀ u ∈ l, RK7 u) (S : Nat → Prop) (w : World) (h : RT w S (.mk 4 r ra rc ast l sa sc mn mx z ix nm)) (hS : ∀ b, S b → b < w.heap.size) (hsub : ∀ s ∈ trs l, allB s = true ∧ deep s ≤ 10000) :
    Calls Try.prog 29 #[(Ta.mk 4 r ra rc ast l sa sc mn mx z ix nm).val] w fun e w' => e = .returned (sv7 (joinedR ((sumsS (trs l)).foldl (fun r x => joinR r x 1) rw0))) ∧ Below w.heap.size w w' := by
  obtain ⟨⟨-, -, hll, -⟩, hN, hL⟩ := h.parts
  have hsc := hN.1
  have hsc2 := hN.2.1
  have HNN := Lib.hid hN
  have HLS := Lib.hid hL
  have HS := Lib.hid hS
  have HIH := Lib.hid ih
  have HBSS := Lib.hid (fun (s : Tr.Tr) (hs : s ∈ trs l) => (sum_bounds s (hsub s hs).1).more (e := 20010000) (by have := (hsub s hs).2; omega))
  have HSUB := Lib.hid hsub
  have HCSS := Lib.hid (fun (s : Tr.Tr) (hs : s ∈ trs l) => sum_form s (hsub s hs).1)
  have HGDS := Lib.hid (fun (s : Tr.Tr) (hs : s ∈ trs l) => (simple_good s (hsub s hs).1).1)
  have HBR := Lib.hid (fun (i : Nat) => cat_br (d := 20010000) (trs (l.take i)) rw0 (fun s hs => (fun hm => ⟨HGDS.out s hm, HCSS.out s hm, HBSS.out s hm⟩ : s ∈ trs l → _) (by rw [trs_map] at hs ⊢; rw [List.map_take] at hs; exact List.mem_of_mem_take hs)) (BR.nil (by decide)))
  have hst := rt_start w [.int .i64 4, .slice ra r.length rc, .int .i64 ast, .slice sa l.length sc, .int .i64 mn, .int .i64 mx, .bool z, .int .i64 ix, .string nm]
  have HST := Lib.hid hst
  clear h hS hN hL ih hsub hst
  have d0 : ((w.alloc (.cells #[.int .i64 4, .slice ra r.length rc, .int .i64 ast, .slice sa l.length sc, .int .i64 mn, .int .i64 mx, .bool z, .int .i64 ix, .string nm] 25)).alloc (.cells #[.int .i64 0, .int .i64 0, .int .i64 0, .int .i64 0] 69)).cell? ⟨w.heap.size, 0, none⟩ = some (.int .i64 4) := ((Blk.new w 25 [.int .i64 4, .slice ra r.length rc, .int .i64 ast, .slice sa l.length sc, .int .i64 mn, .int .i64 mx, .bool z, .int .i64 ix, .string nm]).alloc (.cells #[.int .i64 0, .int .i64 0, .int .i64 0, .int .i64 0] 69)).cell 0
  have d1 : ((w.alloc (.cells #[.int .i64 4, .slice ra r.length rc, .int .i64 ast, .slice sa l.length sc, .int .i64 mn, .int .i64 mx, .bool z, .int .i64 ix, .string nm] 25)).alloc (.cells #[.int .i64 0, .int .i64 0, .int .i64 0, .int .i64 0] 69)).cell? ⟨w.heap.size, 1, none⟩ = some (.slice ra r.length rc) := ((Blk.new w 25 [.int .i64 4, .slice ra r.length rc, .int .i64 ast, .slice sa l.length sc, .int .i64 mn, .int .i64 mx, .bool z, .int .i64 ix, .string nm]).alloc (.cells #[.int .i64 0, .int .i64 0, .int .i64 0, .int .i64 0] 69)).cell 1
  have d2 : ((w.alloc (.cells #[.int .i64 4, .slice ra r.length rc, .int .i64 ast, .slice sa l.length sc, .int .i64 mn, .int .i64 mx, .bool z, .int .i64 ix, .string nm] 25)).alloc (.cells #[.int .i64 0, .int .i64 0, .int .i64 0, .int .i64 0] 69)).cell? ⟨w.heap.size, 2, none⟩ = some (.int .i64 ast) := ((Blk.new w 25 [.int .i64 4, .slice ra r.length rc, .int .i64 ast, .slice sa l.length sc, .int .i64 mn, .int .i64 mx, .bool z, .int .i64 ix, .string nm]).alloc (.cells #[.int .i64 0, .int .i64 0, .int .i64 0, .int .i64 0] 69)).cell 2
  have d3 : ((w.alloc (.cells #[.int .i64 4, .slice ra r.length rc, .int .i64 ast, .slice sa l.length sc, .int .i64 mn, .int .i64 mx, .bool z, .int .i64 ix, .string nm] 25)).alloc (.cells #[.int .i64 0, .int .i64 0, .int .i64 0, .int .i64 0] 69)).cell? ⟨w.heap.size, 3, none⟩ = some (.slice sa l.length sc) := ((Blk.new w 25 [.int .i64 4, .slice ra r.length rc, .int .i64 ast, .slice sa l.length sc, .int .i64 mn, .int .i64 mx, .bool z, .int .i64 ix, .string nm]).alloc (.cells #[.int .i64 0, .int .i64 0, .int .i64 0, .int .i64 0] 69)).cell 3
  have d4 : ((w.alloc (.cells #[.int .i64 4, .slice ra r.length rc, .int .i64 ast, .slice sa l.length sc, .int .i64 mn, .int .i64 mx, .bool z, .int .i64 ix, .string nm] 25)).alloc (.cells #[.int .i64 0, .int .i64 0, .int .i64 0, .int .i64 0] 69)).cell? ⟨w.heap.size, 4, none⟩ = some (.int .i64 mn) := ((Blk.new w 25 [.int .i64 4, .slice ra r.length rc, .int .i64 ast, .slice sa l.length sc, .int .i64 mn, .int .i64 mx, .bool z, .int .i64 ix, .string nm]).alloc (.cells #[.int .i64 0, .int .i64 0, .int .i64 0, .int .i64 0] 69)).cell 4
  have d5 : ((w.alloc (.cells #[.int .i64 4, .slice ra r.length rc, .int .i64 ast, .slice sa l.length sc, .int .i64 mn, .int .i64 mx, .bool z, .int .i64 ix, .string nm] 25)).alloc (.cells #[.int .i64 0, .int .i64 0, .int .i64 0, .int .i64 0] 69)).cell? ⟨w.heap.size, 5, none⟩ = some (.int .i64 mx) := ((Blk.new w 25 [.int .i64 4, .slice ra r.length rc, .int .i64 ast, .slice sa l.length sc, .int .i64 mn, .int .i64 mx, .bool z, .int .i64 ix, .string nm]).alloc (.cells #[.int .i64 0, .int .i64 0, .int .i64 0, .int .i64 0] 69)).cell 5
  have d6 : ((w.alloc (.cells #[.int .i64 4, .slice ra r.length rc, .int .i64 ast, .slice sa l.length sc, .int .i64 mn, .int .i64 mx, .bool z, .int .i64 ix, .string nm] 25)).alloc (.cells #[.int .i64 0, .int .i64 0, .int .i64 0, .int .i64 0] 69)).cell? ⟨w.heap.size, 6, none⟩ = some (.bool z) := ((Blk.new w 25 [.int .i64 4, .slice ra r.length rc, .int .i64 ast, .slice sa l.length sc, .int .i64 mn, .int .i64 mx, .bool z, .int .i64 ix, .string nm]).alloc (.cells #[.int .i64 0, .int .i64 0, .int .i64 0, .int .i64 0] 69)).cell 6
  have d7 : ((w.alloc (.cells #[.int .i64 4, .slice ra r.length rc, .int .i64 ast, .slice sa l.length sc, .int .i64 mn, .int .i64 mx, .bool z, .int .i64 ix, .string nm] 25)).alloc (.cells #[.int .i64 0, .int .i64 0, .int .i64 0, .int .i64 0] 69)).cell? ⟨w.heap.size, 7, none⟩ = some (.int .i64 ix) := ((Blk.new w 25 [.int .i64 4, .slice ra r.length rc, .int .i64 ast, .slice sa l.length sc, .int .i64 mn, .int .i64 mx, .bool z, .int .i64 ix, .string nm]).alloc (.cells #[.int .i64 0, .int .i64 0, .int .i64 0, .int .i64 0] 69)).cell 7
  have d8 : ((w.alloc (.cells #[.int .i64 4, .slice ra r.length rc, .int .i64 ast, .slice sa l.length sc, .int .i64 mn, .int .i64 mx, .bool z, .int .i64 ix, .string nm] 25)).alloc (.cells #[.int .i64 0, .int .i64 0, .int .i64 0, .int .i64 0] 69)).cell? ⟨w.heap.size, 8, none⟩ = some (.string nm) := ((Blk.new w 25 [.int .i64 4, .slice ra r.length rc, .int .i64 ast, .slice sa l.length sc, .int .i64 mn, .int .i64 mx, .bool z, .int .i64 ix, .string nm]).alloc (.cells #[.int .i64 0, .int .i64 0, .int .i64 0, .int .i64 0] 69)).cell 8
  rw [sumsS_map]
  obtain ⟨q, hq⟩ : ∃ q, q = (joinedR (((trs l).map sumS).foldl (fun r x => joinR r x 1) rw0)) := ⟨_, rfl⟩
  rw [← hq]
  have HQ := Lib.hid hq
  clear hq
  simp only [Ta.val, Ta.vals, sv7, smV7]
  go_enter Try.func29, Try.ntmps29
  go_wp2_with fail
  generalize (((w.alloc (.cells #[.int .i64 4, .slice ra r.length rc, .int .i64 ast, .slice sa l.length sc, .int .i64 mn, .int .i64 mx, .bool z, .int .i64 ix, .string nm] 25)).alloc (.cells #[.int .i64 0, .int .i64 0, .int .i64 0, .int .i64 0] 69)).alloc (.cells #[.int .i64 0, .int .i64 0, .int .i64 0, .int .i64 0, .int .i64 0, .int .i64 0, .int .i64 0] 97)) = w3s at *
  generalize hrb : w.heap.size + 1 + 1 = rb at *
  clear d0 d1 d2 d3 d4 d5 d6 d7 d8
  go_loopw [4] (fun iv wr => ∃ i : Nat, i ≤ l.length ∧ iv = .int .i64 (i : Int) ∧ RT4 w [.int .i64 4, .slice ra r.length rc, .int .i64 ast, .slice sa l.length sc, .int .i64 mn, .int .i64 mx, .bool z, .int .i64 ix, .string nm] rb (((trs (l.take i)).map sumS).foldl (fun r x => joinR r x 1) rw0) wr) (fun iv _ => l.length - (intOf iv).toNat)
  case atStart => exact ⟨0, Nat.zero_le _, rfl, by rw [List.take_zero]; exact HST.out⟩
  case round =>
    obtain ⟨i, hi, rfl, hrt⟩ := hrel
    have HRT := Lib.hid hrt
    have k3 : wr.cell? ⟨w.heap.size, 3, none⟩ = some (.slice sa l.length sc) := hrt.node.cell 3
    have k0 : wr.cell? ⟨w.heap.size, 0, none⟩ = some (.int .i64 4) := hrt.node.cell 0
    by_cases hlt : i < l.length
    · have hlt2 : (i : Int) < (l.length : Int) := by omega
      obtain ⟨b, off, rfl, hSb, _⟩ := HNN.out.2.2.2.2 (by omega)
      obtain ⟨u, hu⟩ : ∃ u, l[i]? = some u := ⟨_, List.getElem?_eq_getElem hlt⟩
      have hum : u ∈ l := List.mem_of_getElem? hu
      have hut : u.tr ∈ trs l := by rw [trs_map]; exact List.mem_map_of_mem hum
      have hcell : ∀ j, j < 9 → wr.cell? ⟨b, off + i * 9 + j, none⟩ = u.vals[j]? := fun j hj => by
        rw [Nat.add_assoc, ← HNN.out.node hu hj]
        exact (hrt.below.cell (p := ⟨b, off + (i * 9 + j), none⟩) (HS.out b hSb))
      have hin := HIH.out u hum S wr ((HLS.out u hum).below HS.out hrt.below) (fun b hb => Nat.lt_of_lt_of_le (HS.out b hb) hrt.below.size) (HSUB.out _ hut).1 (HSUB.out _ hut).2
      have HFO := Lib.hid (show ((trs (l.take (i + 1))).map sumS).foldl (fun r x => joinR r x 1) rw0 = (fun r x => joinR r x 1) (((trs (l.take i)).map sumS).foldl (fun r x => joinR r x 1) rw0) (sumS u.tr) from by rw [List.take_add_one, hu, trs_map, trs_map, List.map_append, List.map_append, List.foldl_append]; rfl)
      have HXB := Lib.hid (HBSS.out _ hut)
      obtain ⟨x, hx⟩ : ∃ q, q = sumS u.tr := ⟨_, rfl⟩
      rw [← hx] at hin HFO HXB
      have HBRi := Lib.hid (HBR.out i)
      obtain ⟨fo, hfo⟩ : ∃ q, q = (((trs (l.take i)).map sumS).foldl (fun r x => joinR r x 1) rw0) := ⟨_, rfl⟩
      rw [← hfo] at HFO HBRi HRT
      clear hrt hu hum hut hx hfo
      cases u with
      | mk k' r' ra' rc' a' l' sa' sc' n' m' z' i' s' =>
      simp only [Ta.vals] at hcell
      simp only [Ta.val, Ta.vals, sv7, smV7] at hin
      have c0 := hcell 0 (by omega)
      have c1' := hcell 1 (by omega)
      have c2' := hcell 2 (by omega)
      have c3 := hcell 3 (by omega)
      have c4 := hcell 4 (by omega)
      have c5 := hcell 5 (by omega)
      have c6 := hcell 6 (by omega)
      have c7 := hcell 7 (by omega)
      have c8 := hcell 8 (by omega)
      simp only [List.getElem?_cons_zero, List.getElem?_cons_succ, Nat.add_zero] at c0 c1' c2' c3 c4 c5 c6 c7 c8
      have HIN := Lib.hid hin
      clear hcell hin
      go_wp2_with fail
      refine HIN.out.mono ?_
      rintro e w3 ⟨rfl, hb3⟩
      have HR3 := Lib.hid ((HRT.out.bel hb3).bel (wq := (w3.alloc (.cells #[.int .i64 x.kd, .int .i64 x.nd, .int .i64 x.sb, .int .i64 x.dp] 69))) ((Below.refl _ _).alloc (Nat.le_refl _) _))
      have HXW := Lib.hid (Blk.new w3 69 [.int .i64 x.kd, .int .i64 x.nd, .int .i64 x.sb, .int .i64 x.dp])
      have hj := join7_any fo x 1 20010000 (w3.alloc (.cells #[.int .i64 x.kd, .int .i64 x.nd, .int .i64 x.sb, .int .i64 x.dp] 69)) rb HR3.out.row HBRi.out HXB.out (by omega) (by omega)
      simp only [sv7, smV7] at hj
      have HJ := Lib.hid hj
      have t0 : (w3.alloc (.cells #[.int .i64 x.kd, .int .i64 x.nd, .int .i64 x.sb, .int .i64 x.dp] 69)).cell? ⟨w.heap.size, 0, none⟩ = some (.int .i64 4) := HR3.out.node.cell 0
      clear hb3 hj k0 k3 c0 c1' c2' c3 c4 c5 c6 c7 c8
      simp only []
      go_wp2_with fail
      refine HJ.out.mono ?_
      rintro e w4 ⟨rfl, hb4, hk4⟩
      have HR4 := Lib.hid (HR3.out.put hk4 hb4)
      clear hb4 hk4
      simp only []
      go_wp2_with fail
      go_roundw
      case rel => exact ⟨i + 1, by omega, by go_num, by rw [HFO.out]; exact HR4.out⟩
      case measure => simp [intOf]; omega
    · obtain rfl : i = l.length := by omega
      have hlt2 : ¬ ((l.length : Int) < (l.length : Int)) := by omega
      rw [List.take_length] at HRT
      have hbr := HBR.out l.length
      rw [List.take_length] at hbr
      obtain ⟨fo, hfo⟩ : ∃ q, q = (((trs l).map sumS).foldl (fun r x => joinR r x 1) rw0) := ⟨_, rfl⟩
      rw [← hfo] at hbr HRT HQ
      have HBRl := Lib.hid hbr
      clear hrt hbr hfo
      have hj := joined7_any fo 20010000 wr rb HRT.out.row HBRl.out (by omega)
      rw [← HQ.out] at hj
      simp only [sv7, smV7] at hj
      have HJ := Lib.hid hj
      clear hj
      go_wp2_with fail
      refine HJ.out.mono ?_
      rintro e w4 ⟨rfl, hb4⟩
      have HR4 := Lib.hid (HRT.out.bel hb4)
      have z0 : w4.cell? ⟨w.heap.size + 1, 0, none⟩ = some (.int .i64 0) := HR4.out.res.cell 0
      have fz0 := HR4.out.res.frozen 0
      have z1 : w4.cell? ⟨w.heap.size + 1, 1, none⟩ = some (.int .i64 0) := HR4.out.res.cell 1
      have fz1 := HR4.out.res.frozen 1
      have z2 : w4.cell? ⟨w.heap.size + 1, 2, none⟩ = some (.int .i64 0) := HR4.out.res.cell 2
      have fz2 := HR4.out.res.frozen 2
      have z3 : w4.cell? ⟨w.heap.size + 1, 3, none⟩ = some (.int .i64 0) := HR4.out.res.cell 3
      have fz3 := HR4.out.res.frozen 3
      have fz9 := HR4.out.res.lt
      clear hb4
      simp only []
      go_wp2_with fail
      refine bodyPost_ret (sum_ret rfl _ _ (w.heap.size + 1) _ _ _ _ rfl ((((HR4.out.res.set_ 0 (.int .i64 q.kd)).set_ 1 (.int .i64 q.nd)).set_ 2 (.int .i64 q.sb)).set_ 3 (.int .i64 q.dp))) rfl ?_
      exact ⟨rfl, Below.kept HR4.out.below (kept4 w4 (w.heap.size + 1) _ _ _ _) (by intro b hb; simp at hb; omega) HR4.out.below.size⟩
set_option maxRecDepth 100000 in
set_option maxHeartbeats 2000000 in
theorem rk7_alt (r : List (Int × Int)) (ra : Option Addr) (rc : Nat) (ast : Int) (l : List Ta) (sa : Option Addr) (sc : Nat) (mn mx : Int) (z : Bool) (ix : Int) (nm : ByteArray) (ih : ∀ u ∈ l, RK7 u) (S : Nat → Prop) (w : World) (h : RT w S (.mk 5 r ra rc ast l sa sc mn mx z ix nm)) (hS : ∀ b, S b → b < w.heap.size) (hsub : ∀ s ∈ trs l, allB s = true ∧ deep s ≤ 10000) :
    Calls Try.prog 29 #[(Ta.mk 5 r ra rc ast l sa sc mn mx z ix nm).val] w fun e w' => e = .returned (sv7 ((fun r : Rw => ⟨5, min (r.nd + 1) lidN, r.sb, r.dp + 1⟩ : Rw → Sm) ((sumsS (trs l)).foldl (fun r x => addR r x 1 5) rw0))) ∧ Below w.heap.size w w' := by
  obtain ⟨⟨-, -, hll, -⟩, hN, hL⟩ := h.parts
  have hsc := hN.1
  have hsc2 := hN.2.1
  have HNN := Lib.hid hN
  have HLS := Lib.hid hL
  have HS := Lib.hid hS
  have HIH := Lib.hid ih
  have HBSS := Lib.hid (fun (s : Tr.Tr) (hs : s ∈ trs l) => (sum_bounds s (hsub s hs).1).more (e := 20010000) (by have := (hsub s hs).2; omega))
  have HSUB := Lib.hid hsub
  have HCSS := Lib.hid (fun (s : Tr.Tr) (hs : s ∈ trs l) => sum_form s (hsub s hs).1)
  have HGDS := Lib.hid (fun (s : Tr.Tr) (hs : s ∈ trs l) => (simple_good s (hsub s hs).1).1)
  have HBR := Lib.hid (fun (i : Nat) => alt_br (d := 20010000) (trs (l.take i)) rw0 (fun s hs => (fun hm => ⟨HGDS.out s hm, HCSS.out s hm, HBSS.out s hm⟩ : s ∈ trs l → _) (by rw [trs_map] at hs ⊢; rw [List.map_take] at hs; exact List.mem_of_mem_take hs)) (BR.nil (by decide)))
  have hst := rt_start w [.int .i64 5, .slice ra r.length rc, .int .i64 ast, .slice sa l.length sc, .int .i64 mn, .int .i64 mx, .bool z, .int .i64 ix, .string nm]
  have HST := Lib.hid hst
  clear h hS hN hL ih hsub hst
  have d0 : ((w.alloc (.cells #[.int .i64 5, .slice ra r.length rc, .int .i64 ast, .slice sa l.length sc, .int .i64 mn, .int .i64 mx, .bool z, .int .i64 ix, .string nm] 25)).alloc (.cells #[.int .i64 0, .int .i64 0, .int .i64 0, .int .i64 0] 69)).cell? ⟨w.heap.size, 0, none⟩ = some (.int .i64 5) := ((Blk.new w 25 [.int .i64 5, .slice ra r.length rc, .int .i64 ast, .slice sa l.length sc, .int .i64 mn, .int .i64 mx, .bool z, .int .i64 ix, .string nm]).alloc (.cells #[.int .i64 0, .int .i64 0, .int .i64 0, .int .i64 0] 69)).cell 0
  have d1 : ((w.alloc (.cells #[.int .i64 5, .slice ra r.length rc, .int .i64 ast, .slice sa l.length sc, .int .i64 mn, .int .i64 mx, .bool z, .int .i64 ix, .string nm] 25)).alloc (.cells #[.int .i64 0, .int .i64 0, .int .i64 0, .int .i64 0] 69)).cell? ⟨w.heap.size, 1, none⟩ = some (.slice ra r.length rc) := ((Blk.new w 25 [.int .i64 5, .slice ra r.length rc, .int .i64 ast, .slice sa l.length sc, .int .i64 mn, .int .i64 mx, .bool z, .int .i64 ix, .string nm]).alloc (.cells #[.int .i64 0, .int .i64 0, .int .i64 0, .int .i64 0] 69)).cell 1
  have d2 : ((w.alloc (.cells #[.int .i64 5, .slice ra r.length rc, .int .i64 ast, .slice sa l.length sc, .int .i64 mn, .int .i64 mx, .bool z, .int .i64 ix, .string nm] 25)).alloc (.cells #[.int .i64 0, .int .i64 0, .int .i64 0, .int .i64 0] 69)).cell? ⟨w.heap.size, 2, none⟩ = some (.int .i64 ast) := ((Blk.new w 25 [.int .i64 5, .slice ra r.length rc, .int .i64 ast, .slice sa l.length sc, .int .i64 mn, .int .i64 mx, .bool z, .int .i64 ix, .string nm]).alloc (.cells #[.int .i64 0, .int .i64 0, .int .i64 0, .int .i64 0] 69)).cell 2
  have d3 : ((w.alloc (.cells #[.int .i64 5, .slice ra r.length rc, .int .i64 ast, .slice sa l.length sc, .int .i64 mn, .int .i64 mx, .bool z, .int .i64 ix, .string nm] 25)).alloc (.cells #[.int .i64 0, .int .i64 0, .int .i64 0, .int .i64 0] 69)).cell? ⟨w.heap.size, 3, none⟩ = some (.slice sa l.length sc) := ((Blk.new w 25 [.int .i64 5, .slice ra r.length rc, .int .i64 ast, .slice sa l.length sc, .int .i64 mn, .int .i64 mx, .bool z, .int .i64 ix, .string nm]).alloc (.cells #[.int .i64 0, .int .i64 0, .int .i64 0, .int .i64 0] 69)).cell 3
  have d4 : ((w.alloc (.cells #[.int .i64 5, .slice ra r.length rc, .int .i64 ast, .slice sa l.length sc, .int .i64 mn, .int .i64 mx, .bool z, .int .i64 ix, .string nm] 25)).alloc (.cells #[.int .i64 0, .int .i64 0, .int .i64 0, .int .i64 0] 69)).cell? ⟨w.heap.size, 4, none⟩ = some (.int .i64 mn) := ((Blk.new w 25 [.int .i64 5, .slice ra r.length rc, .int .i64 ast, .slice sa l.length sc, .int .i64 mn, .int .i64 mx, .bool z, .int .i64 ix, .string nm]).alloc (.cells #[.int .i64 0, .int .i64 0, .int .i64 0, .int .i64 0] 69)).cell 4
  have d5 : ((w.alloc (.cells #[.int .i64 5, .slice ra r.length rc, .int .i64 ast, .slice sa l.length sc, .int .i64 mn, .int .i64 mx, .bool z, .int .i64 ix, .string nm] 25)).alloc (.cells #[.int .i64 0, .int .i64 0, .int .i64 0, .int .i64 0] 69)).cell? ⟨w.heap.size, 5, none⟩ = some (.int .i64 mx) := ((Blk.new w 25 [.int .i64 5, .slice ra r.length rc, .int .i64 ast, .slice sa l.length sc, .int .i64 mn, .int .i64 mx, .bool z, .int .i64 ix, .string nm]).alloc (.cells #[.int .i64 0, .int .i64 0, .int .i64 0, .int .i64 0] 69)).cell 5
  have d6 : ((w.alloc (.cells #[.int .i64 5, .slice ra r.length rc, .int .i64 ast, .slice sa l.length sc, .int .i64 mn, .int .i64 mx, .bool z, .int .i64 ix, .string nm] 25)).alloc (.cells #[.int .i64 0, .int .i64 0, .int .i64 0, .int .i64 0] 69)).cell? ⟨w.heap.size, 6, none⟩ = some (.bool z) := ((Blk.new w 25 [.int .i64 5, .slice ra r.length rc, .int .i64 ast, .slice sa l.length sc, .int .i64 mn, .int .i64 mx, .bool z, .int .i64 ix, .string nm]).alloc (.cells #[.int .i64 0, .int .i64 0, .int .i64 0, .int .i64 0] 69)).cell 6
  have d7 : ((w.alloc (.cells #[.int .i64 5, .slice ra r.length rc, .int .i64 ast, .slice sa l.length sc, .int .i64 mn, .int .i64 mx, .bool z, .int .i64 ix, .string nm] 25)).alloc (.cells #[.int .i64 0, .int .i64 0, .int .i64 0, .int .i64 0] 69)).cell? ⟨w.heap.size, 7, none⟩ = some (.int .i64 ix) := ((Blk.new w 25 [.int .i64 5, .slice ra r.length rc, .int .i64 ast, .slice sa l.length sc, .int .i64 mn, .int .i64 mx, .bool z, .int .i64 ix, .string nm]).alloc (.cells #[.int .i64 0, .int .i64 0, .int .i64 0, .int .i64 0] 69)).cell 7
  have d8 : ((w.alloc (.cells #[.int .i64 5, .slice ra r.length rc, .int .i64 ast, .slice sa l.length sc, .int .i64 mn, .int .i64 mx, .bool z, .int .i64 ix, .string nm] 25)).alloc (.cells #[.int .i64 0, .int .i64 0, .int .i64 0, .int .i64 0] 69)).cell? ⟨w.heap.size, 8, none⟩ = some (.string nm) := ((Blk.new w 25 [.int .i64 5, .slice ra r.length rc, .int .i64 ast, .slice sa l.length sc, .int .i64 mn, .int .i64 mx, .bool z, .int .i64 ix, .string nm]).alloc (.cells #[.int .i64 0, .int .i64 0, .int .i64 0, .int .i64 0] 69)).cell 8
  rw [sumsS_map]
  obtain ⟨q, hq⟩ : ∃ q, q = ((fun r : Rw => ⟨5, min (r.nd + 1) lidN, r.sb, r.dp + 1⟩ : Rw → Sm) (((trs l).map sumS).foldl (fun r x => addR r x 1 5) rw0)) := ⟨_, rfl⟩
  rw [← hq]
  have HQ := Lib.hid hq
  clear hq
  simp only [Ta.val, Ta.vals, sv7, smV7]
  go_enter Try.func29, Try.ntmps29
  go_wp2_with fail
  generalize (((w.alloc (.cells #[.int .i64 5, .slice ra r.length rc, .int .i64 ast, .slice sa l.length sc, .int .i64 mn, .int .i64 mx, .bool z, .int .i64 ix, .string nm] 25)).alloc (.cells #[.int .i64 0, .int .i64 0, .int .i64 0, .int .i64 0] 69)).alloc (.cells #[.int .i64 0, .int .i64 0, .int .i64 0, .int .i64 0, .int .i64 0, .int .i64 0, .int .i64 0] 97)) = w3s at *
  generalize hrb : w.heap.size + 1 + 1 = rb at *
  clear d0 d1 d2 d3 d4 d5 d6 d7 d8
  go_loopw [4] (fun iv wr => ∃ i : Nat, i ≤ l.length ∧ iv = .int .i64 (i : Int) ∧ RT4 w [.int .i64 5, .slice ra r.length rc, .int .i64 ast, .slice sa l.length sc, .int .i64 mn, .int .i64 mx, .bool z, .int .i64 ix, .string nm] rb (((trs (l.take i)).map sumS).foldl (fun r x => addR r x 1 5) rw0) wr) (fun iv _ => l.length - (intOf iv).toNat)
  case atStart => exact ⟨0, Nat.zero_le _, rfl, by rw [List.take_zero]; exact HST.out⟩
  case round =>
    obtain ⟨i, hi, rfl, hrt⟩ := hrel
    have HRT := Lib.hid hrt
    have k3 : wr.cell? ⟨w.heap.size, 3, none⟩ = some (.slice sa l.length sc) := hrt.node.cell 3
    have k0 : wr.cell? ⟨w.heap.size, 0, none⟩ = some (.int .i64 5) := hrt.node.cell 0
    by_cases hlt : i < l.length
    · have hlt2 : (i : Int) < (l.length : Int) := by omega
      obtain ⟨b, off, rfl, hSb, _⟩ := HNN.out.2.2.2.2 (by omega)
      obtain ⟨u, hu⟩ : ∃ u, l[i]? = some u := ⟨_, List.getElem?_eq_getElem hlt⟩
      have hum : u ∈ l := List.mem_of_getElem? hu
      have hut : u.tr ∈ trs l := by rw [trs_map]; exact List.mem_map_of_mem hum
      have hcell : ∀ j, j < 9 → wr.cell? ⟨b, off + i * 9 + j, none⟩ = u.vals[j]? := fun j hj => by
        rw [Nat.add_assoc, ← HNN.out.node hu hj]
        exact (hrt.below.cell (p := ⟨b, off + (i * 9 + j), none⟩) (HS.out b hSb))
      have hin := HIH.out u hum S wr ((HLS.out u hum).below HS.out hrt.below) (fun b hb => Nat.lt_of_lt_of_le (HS.out b hb) hrt.below.size) (HSUB.out _ hut).1 (HSUB.out _ hut).2
      have HFO := Lib.hid (show ((trs (l.take (i + 1))).map sumS).foldl (fun r x => addR r x 1 5) rw0 = (fun r x => addR r x 1 5) (((trs (l.take i)).map sumS).foldl (fun r x => addR r x 1 5) rw0) (sumS u.tr) from by rw [List.take_add_one, hu, trs_map, trs_map, List.map_append, List.map_append, List.foldl_append]; rfl)
      have HXB := Lib.hid (HBSS.out _ hut)
      obtain ⟨x, hx⟩ : ∃ q, q = sumS u.tr := ⟨_, rfl⟩
      rw [← hx] at hin HFO HXB
      have HBRi := Lib.hid (HBR.out i)
      obtain ⟨fo, hfo⟩ : ∃ q, q = (((trs (l.take i)).map sumS).foldl (fun r x => addR r x 1 5) rw0) := ⟨_, rfl⟩
      rw [← hfo] at HFO HBRi HRT
      clear hrt hu hum hut hx hfo
      cases u with
      | mk k' r' ra' rc' a' l' sa' sc' n' m' z' i' s' =>
      simp only [Ta.vals] at hcell
      simp only [Ta.val, Ta.vals, sv7, smV7] at hin
      have c0 := hcell 0 (by omega)
      have c1' := hcell 1 (by omega)
      have c2' := hcell 2 (by omega)
      have c3 := hcell 3 (by omega)
      have c4 := hcell 4 (by omega)
      have c5 := hcell 5 (by omega)
      have c6 := hcell 6 (by omega)
      have c7 := hcell 7 (by omega)
      have c8 := hcell 8 (by omega)
      simp only [List.getElem?_cons_zero, List.getElem?_cons_succ, Nat.add_zero] at c0 c1' c2' c3 c4 c5 c6 c7 c8
      have HIN := Lib.hid hin
      clear hcell hin
      go_wp2_with fail
      refine HIN.out.mono ?_
      rintro e w3 ⟨rfl, hb3⟩
      have HR3 := Lib.hid ((HRT.out.bel hb3).bel (wq := (w3.alloc (.cells #[.int .i64 x.kd, .int .i64 x.nd, .int .i64 x.sb, .int .i64 x.dp] 69))) ((Below.refl _ _).alloc (Nat.le_refl _) _))
      have HXW := Lib.hid (Blk.new w3 69 [.int .i64 x.kd, .int .i64 x.nd, .int .i64 x.sb, .int .i64 x.dp])
      have hj := add7_any fo x 1 5 20010000 (w3.alloc (.cells #[.int .i64 x.kd, .int .i64 x.nd, .int .i64 x.sb, .int .i64 x.dp] 69)) rb HR3.out.row HBRi.out HXB.out (by omega) (by omega)
      simp only [sv7, smV7] at hj
      have HJ := Lib.hid hj
      have t0 : (w3.alloc (.cells #[.int .i64 x.kd, .int .i64 x.nd, .int .i64 x.sb, .int .i64 x.dp] 69)).cell? ⟨w.heap.size, 0, none⟩ = some (.int .i64 5) := HR3.out.node.cell 0
      clear hb3 hj k0 k3 c0 c1' c2' c3 c4 c5 c6 c7 c8
      simp only []
      go_wp2_with fail
      refine HJ.out.mono ?_
      rintro e w4 ⟨rfl, hb4, hk4⟩
      have HR4 := Lib.hid (HR3.out.put hk4 hb4)
      clear hb4 hk4
      simp only []
      go_wp2_with fail
      go_roundw
      case rel => exact ⟨i + 1, by omega, by go_num, by rw [HFO.out]; exact HR4.out⟩
      case measure => simp [intOf]; omega
    · obtain rfl : i = l.length := by omega
      have hlt2 : ¬ ((l.length : Int) < (l.length : Int)) := by omega
      rw [List.take_length] at HRT
      have hbr := HBR.out l.length
      rw [List.take_length] at hbr
      obtain ⟨fo, hfo⟩ : ∃ q, q = (((trs l).map sumS).foldl (fun r x => addR r x 1 5) rw0) := ⟨_, rfl⟩
      rw [← hfo] at hbr HRT HQ
      have HBRl := Lib.hid hbr
      clear hrt hbr hfo
      obtain ⟨hrn, hrs, hrd, -⟩ := HBRl.out
      have hlid : lidN = 1099511627776 := rfl
      rw [hlid] at hrn hrs
      clear hlid
      have hw1 : IntKind.i64.wrap (fo.nd + 1) = fo.nd + 1 := wrI7 (by omega)
      have hw2 : IntKind.i64.wrap (fo.dp + 1) = fo.dp + 1 := wrI7 (by omega)
      have c0 : wr.cell? ⟨rb, 0, none⟩ = some (.int .i64 fo.sb) := HRT.out.row.cell 0
      have c1 : wr.cell? ⟨rb, 1, none⟩ = some (.int .i64 fo.nd) := HRT.out.row.cell 1
      have c2 : wr.cell? ⟨rb, 2, none⟩ = some (.int .i64 fo.dp) := HRT.out.row.cell 2
      have c3 : wr.cell? ⟨rb, 3, none⟩ = some (.int .i64 fo.last.kd) := HRT.out.row.cell 3
      have c4 : wr.cell? ⟨rb, 4, none⟩ = some (.int .i64 fo.last.nd) := HRT.out.row.cell 4
      have c5 : wr.cell? ⟨rb, 5, none⟩ = some (.int .i64 fo.last.sb) := HRT.out.row.cell 5
      have c6 : wr.cell? ⟨rb, 6, none⟩ = some (.int .i64 fo.last.dp) := HRT.out.row.cell 6
      have z0 : wr.cell? ⟨w.heap.size + 1, 0, none⟩ = some (.int .i64 0) := HRT.out.res.cell 0
      have fz0 := HRT.out.res.frozen 0
      have z1 : wr.cell? ⟨w.heap.size + 1, 1, none⟩ = some (.int .i64 0) := HRT.out.res.cell 1
      have fz1 := HRT.out.res.frozen 1
      have z2 : wr.cell? ⟨w.heap.size + 1, 2, none⟩ = some (.int .i64 0) := HRT.out.res.cell 2
      have fz2 := HRT.out.res.frozen 2
      have z3 : wr.cell? ⟨w.heap.size + 1, 3, none⟩ = some (.int .i64 0) := HRT.out.res.cell 3
      have fz3 := HRT.out.res.frozen 3
      have fz9 := HRT.out.res.lt
      go_wp2_with fail
      go_still_tail 16, (by kernel_rfl)
      rw [show (if 1099511627776 < fo.nd + 1 then 1099511627776 else fo.nd + 1) = min (fo.nd + 1) 1099511627776 from by omega]
      change wpList _ _ _ _ _ wr.drew
      go_wp2_with fail
      refine bodyPost_ret (sum_ret rfl _ _ (w.heap.size + 1) _ _ _ _ rfl ((((HRT.out.res.set_ 0 (.int .i64 5)).set_ 1 (.int .i64 (min (fo.nd + 1) 1099511627776))).set_ 2 (.int .i64 fo.sb)).set_ 3 (.int .i64 (fo.dp + 1))).drew) rfl ?_
      exact ⟨by rw [HQ.out]; rfl, Below.kept HRT.out.below ((kept4 wr (w.heap.size + 1) _ _ _ _).trans (Kept.drew (L := []))) (by intro b hb; simp at hb; omega) HRT.out.below.size⟩
end Go.Proofs.Ytfgelkfnbohmmaa
