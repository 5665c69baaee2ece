/- heronref05.Same: trees that say the same are told so. -/
import Derived.Test.YtajpkgbgfneacaaQGreat
import Derived.Test.YtajpkgbgfneacaaQReck
import Derived.StillTailTactics
namespace Go.Proofs.Ytajpkgbgfneacaa
open Go.RowKit Go.Proofs.Ytajpkgbgfneacaa.Tr

theorem take_tr {l : List Ta} {i : Nat} {u : Ta} (hu : l[i]? = some u) : (trs l)[i]? = some u.tr := by rw [trs_map, List.getElem?_map, hu]; rfl
set_option maxRecDepth 100000 in
set_option maxHeartbeats 2000000 in
theorem same_any : ∀ (t t2 : Ta) (S : Nat → Prop) (w : World), RT w S t → RT w S t2 → (∀ b, S b → b < w.heap.size) → t.tr = t2.tr →
    Calls Try.prog 10 #[t.val, t2.val] w fun e w' => e = .returned (.bool true) ∧ Below w.heap.size w w' := by
  intro t
  induction t using Ta.ind with
  | h t ih =>
    intro t2 S w h h2 hS he
    cases t with
    | mk k r ra rc ast l sa sc mn mx z ix nm =>
    cases t2 with
    | mk k2 r2 ra2 rc2 ast2 l2 sa2 sc2 mn2 mx2 z2 ix2 nm2 =>
    simp only [Ta.tr, Tr.mk.injEq] at he
    obtain ⟨rfl, rfl, rfl, hl, rfl, rfl, rfl, rfl, rfl⟩ := he
    have hll2 : l2.length = l.length := by rw [← trs_length l, ← trs_length l2, hl]
    obtain ⟨⟨hR, hrl, hll, hnm⟩, hN, hL⟩ := h.parts
    obtain ⟨⟨hR2, -, -, -⟩, hN2, hL2⟩ := h2.parts
    have hsc := hN.1
    have hsc2 := hN.2.1
    have hsc3 := hN2.1
    have hsc4 := hN2.2.1
    have hrc := hR.1
    have hrc2 := hR.2.1
    have hrc3 := hR2.1
    have hrc4 := hR2.2.1
    have HLL2 := Lib.hid hll2
    have HN := Lib.hid hN
    have HN2 := Lib.hid hN2
    have HR := Lib.hid hR
    have HR2 := Lib.hid hR2
    have HL := Lib.hid hL
    have HL2 := Lib.hid hL2
    have HIH := Lib.hid ih
    have HSS := Lib.hid hS
    have HTR := Lib.hid hl
    have HB0 := Lib.hid (two_below w (.cells #[.int .i64 k, .slice ra r.length rc, .int .i64 ast, .slice sa l.length sc, .int .i64 mn, .int .i64 mx, .bool z, .int .i64 ix, .string nm] 25) (.cells #[.int .i64 k, .slice ra2 r.length rc2, .int .i64 ast, .slice sa2 l.length sc2, .int .i64 mn, .int .i64 mx, .bool z, .int .i64 ix, .string nm] 25))
    have HA := Lib.hid ((Blk.new w 25 [.int .i64 k, .slice ra r.length rc, .int .i64 ast, .slice sa l.length sc, .int .i64 mn, .int .i64 mx, .bool z, .int .i64 ix, .string nm]).alloc (.cells #[.int .i64 k, .slice ra2 r.length rc2, .int .i64 ast, .slice sa2 l.length sc2, .int .i64 mn, .int .i64 mx, .bool z, .int .i64 ix, .string nm] 25))
    have HB := Lib.hid (two_blk w (.cells #[.int .i64 k, .slice ra r.length rc, .int .i64 ast, .slice sa l.length sc, .int .i64 mn, .int .i64 mx, .bool z, .int .i64 ix, .string nm] 25) 25 [.int .i64 k, .slice ra2 r.length rc2, .int .i64 ast, .slice sa2 l.length sc2, .int .i64 mn, .int .i64 mx, .bool z, .int .i64 ix, .string nm])
    simp only [Ta.val, Ta.vals, hll2]
    clear hN hN2 hR hR2 hL hL2 ih hS hl h h2
    rw [hll2] at hsc3
    clear hll2
    go_enter Try.func10, Try.ntmps10
    go_wp2_with fail
    generalize ((w.alloc (.cells #[.int .i64 k, .slice ra r.length rc, .int .i64 ast, .slice sa l.length sc, .int .i64 mn, .int .i64 mx, .bool z, .int .i64 ix, .string nm] 25)).alloc (.cells #[.int .i64 k, .slice ra2 r.length rc2, .int .i64 ast, .slice sa2 l.length sc2, .int .i64 mn, .int .i64 mx, .bool z, .int .i64 ix, .string nm] 25)) = w2 at *
    have t1 : w2.cell? ⟨w.heap.size, 1, none⟩ = some (.slice ra r.length rc) := HA.out.cell 1
    have u1 : w2.cell? ⟨w.heap.size + 1, 1, none⟩ = some (.slice ra2 r.length rc2) := HB.out.cell 1
    go_loopw [5] (fun iv wr => ∃ (i m : Nat), i ≤ r.length ∧ iv = .int .i64 (i : Int) ∧ wr = w2.drewN m) (fun iv _ => r.length - (intOf iv).toNat)
    case atStart => exact ⟨0, 0, Nat.zero_le _, rfl, rfl⟩
    case round =>
      obtain ⟨i, m, hi, rfl, rfl⟩ := hrel
      by_cases hlt : i < r.length
      · have hlt2 : (i : Int) < (r.length : Int) := by omega
        obtain ⟨b, off, rfl, hSb, hcb⟩ := HR.out.2.2.2.2 (by omega)
        obtain ⟨b2, off2, rfl, hSb2, hcb2⟩ := HR2.out.2.2.2.2 (by omega)
        have hg := flat_get r i _ (List.getElem?_eq_getElem hlt)
        obtain ⟨x, hx⟩ : ∃ x, x = r[i]'hlt := ⟨_, rfl⟩
        rw [← hx] at hg
        clear hx
        have d0 : w2.cell? ⟨b, off + i * 2, none⟩ = some (.int .i64 x.1) := by rw [HB0.out.cell (p := ⟨b, off + i * 2, none⟩) (HSS.out b hSb)]; exact hcb _ _ hg.1
        have d1 : w2.cell? ⟨b, off + i * 2 + 1, none⟩ = some (.int .i64 x.2) := by rw [HB0.out.cell (p := ⟨b, off + i * 2 + 1, none⟩) (HSS.out b hSb)]; exact hcb _ _ hg.2
        have e0 : w2.cell? ⟨b2, off2 + i * 2, none⟩ = some (.int .i64 x.1) := by rw [HB0.out.cell (p := ⟨b2, off2 + i * 2, none⟩) (HSS.out b2 hSb2)]; exact hcb2 _ _ hg.1
        have e1 : w2.cell? ⟨b2, off2 + i * 2 + 1, none⟩ = some (.int .i64 x.2) := by rw [HB0.out.cell (p := ⟨b2, off2 + i * 2 + 1, none⟩) (HSS.out b2 hSb2)]; exact hcb2 _ _ hg.2
        clear hg hcb hcb2
        go_wp2_with fail
        go_quiet (fail)
        go_wp2_with fail
        go_roundw
        case rel => exact ⟨i + 1, m + nq, by omega, by go_num, by first | rfl | rw [World.drewN_drewN]⟩
        case measure => simp [intOf]; omega
      · obtain rfl : i = r.length := by omega
        have hlt2 : ¬ ((r.length : Int) < (r.length : Int)) := by omega
        go_wp2_with fail
        generalize hwm : w2.drewN m = wm at *
        have HBM := Lib.hid (show Below w.heap.size w wm from hwm ▸ bdrewN HB0.out m)
        have HAM := Lib.hid (show Blk wm w.heap.size 25 [.int .i64 k, .slice ra r.length rc, .int .i64 ast, .slice sa l.length sc, .int .i64 mn, .int .i64 mx, .bool z, .int .i64 ix, .string nm] from hwm ▸ HA.out.drewN m)
        have HBBM := Lib.hid (show Blk wm (w.heap.size + 1) 25 [.int .i64 k, .slice ra2 r.length rc2, .int .i64 ast, .slice sa2 l.length sc2, .int .i64 mn, .int .i64 mx, .bool z, .int .i64 ix, .string nm] from hwm ▸ HB.out.drewN m)
        clear t1 u1 hwm HA HB HB0
        go_loopw [6] (fun iv wr => ∃ i : Nat, i ≤ l.length ∧ iv = .int .i64 (i : Int) ∧ Below wm.heap.size wm wr) (fun iv _ => l.length - (intOf iv).toNat)
        case atStart => exact ⟨0, Nat.zero_le _, rfl, Below.refl _ _⟩
        case round => 
          obtain ⟨i, hi, rfl, hb⟩ := hrel
          have HBW := Lib.hid (HBM.out.trans (hb.mono HBM.out.size))
          have HBR := Lib.hid hb
          have t3 : wr.cell? ⟨w.heap.size, 3, none⟩ = some (.slice sa l.length sc) := (HAM.out.below hb HAM.out.lt).cell 3
          have u3 : wr.cell? ⟨w.heap.size + 1, 3, none⟩ = some (.slice sa2 l.length sc2) := (HBBM.out.below hb HBBM.out.lt).cell 3
          have t3d : wr.drew.cell? ⟨w.heap.size, 3, none⟩ = some (.slice sa l.length sc) := t3
          have u3d : wr.drew.cell? ⟨w.heap.size + 1, 3, none⟩ = some (.slice sa2 l.length sc2) := u3
          clear hb
          by_cases hlt : i < l.length
          · have hlt2 : (i : Int) < (l.length : Int) := by omega
            obtain ⟨b, off, rfl, hSb, _⟩ := HN.out.2.2.2.2 (by omega)
            obtain ⟨b2, off2, rfl, hSb2, _⟩ := HN2.out.2.2.2.2 (by have := HLL2.out; omega)
            obtain ⟨u, hu⟩ : ∃ u, l[i]? = some u := ⟨_, List.getElem?_eq_getElem hlt⟩
            obtain ⟨v, hv⟩ : ∃ v, l2[i]? = some v := ⟨_, List.getElem?_eq_getElem (by rw [HLL2.out]; exact hlt)⟩
            have hum : u ∈ l := List.mem_of_getElem? hu
            have hvm : v ∈ l2 := List.mem_of_getElem? hv
            have heq : u.tr = v.tr := by
              have := take_tr hu
              rw [HTR.out, take_tr hv] at this
              exact (Option.some.inj this).symm
            have hcell : ∀ j, j < 9 → wr.drew.cell? ⟨b, off + i * 9 + j, none⟩ = u.vals[j]? := fun j hj => by
              rw [Nat.add_assoc]
              rw [← HN.out.node hu hj]
              exact (HBW.out.cell (p := ⟨b, off + (i * 9 + j), none⟩) (HSS.out b hSb))
            have hcell2 : ∀ j, j < 9 → wr.drew.cell? ⟨b2, off2 + i * 9 + j, none⟩ = v.vals[j]? := fun j hj => by
              rw [Nat.add_assoc]
              rw [← HN2.out.node hv hj]
              exact (HBW.out.cell (p := ⟨b2, off2 + (i * 9 + j), none⟩) (HSS.out b2 hSb2))
            have hRK := HIH.out u hum v S wr.drew ((HL.out u hum).below HSS.out (bdrewN HBW.out 1)) ((HL2.out v hvm).below HSS.out (bdrewN HBW.out 1)) (fun b hb => Nat.lt_of_lt_of_le (HSS.out b hb) HBW.out.size) heq
            clear hu hv hum hvm heq
            cases u with
            | mk k' r' ra' rc' a' l' sa' sc' n' m' z' i' s' =>
            cases v with
            | mk k'' r'' ra'' rc'' a'' l'' sa'' sc'' n'' m'' z'' i'' s'' =>
            simp only [Ta.vals] at hcell hcell2
            simp only [Ta.val, Ta.vals] at hRK
            have c0 := hcell 0 (by omega)
            have e0 := hcell2 0 (by omega)
            have c1 := hcell 1 (by omega)
            have e1 := hcell2 1 (by omega)
            have c2 := hcell 2 (by omega)
            have e2 := hcell2 2 (by omega)
            have c3 := hcell 3 (by omega)
            have e3 := hcell2 3 (by omega)
            have c4 := hcell 4 (by omega)
            have e4 := hcell2 4 (by omega)
            have c5 := hcell 5 (by omega)
            have e5 := hcell2 5 (by omega)
            have c6 := hcell 6 (by omega)
            have e6 := hcell2 6 (by omega)
            have c7 := hcell 7 (by omega)
            have e7 := hcell2 7 (by omega)
            have c8 := hcell 8 (by omega)
            have e8 := hcell2 8 (by omega)
            simp only [List.getElem?_cons_zero, List.getElem?_cons_succ, Nat.add_zero] at c0 c1 c2 c3 c4 c5 c6 c7 c8 e0 e1 e2 e3 e4 e5 e6 e7 e8
            have HIN := Lib.hid hRK
            clear hcell hcell2 hRK
            go_wp2_with fail
            refine wp_region_still_tail 10 (by kernel_rfl) (by kernel_rfl) ?_
            simp only [List.take_succ_cons, List.take_zero, List.drop_succ_cons, List.drop_zero]
            change wpStill _ _ wr.drew _ _ _
            repeat still_step
            refine wpStill_nil ?_
            change wpList _ _ _ _ _ wr.drew
            go_wp2_with (go_at_call 10; refine HIN.out.mono ?_; rintro e w5 ⟨rfl, hb5⟩; have HB5 := Lib.hid ((bdrewN HBR.out 1).trans (hb5.mono HBR.out.size)); clear hb5; simp only [])
            go_roundw
            case rel => exact ⟨i + 1, by omega, by go_num, HB5.out⟩
            case measure => simp [intOf]; omega
          · obtain rfl : i = l.length := by omega
            have hlt2 : ¬ ((l.length : Int) < (l.length : Int)) := by omega
            go_wp2_with fail
            go_ret
            exact ⟨rfl, HBW.out⟩
end Go.Proofs.Ytajpkgbgfneacaa
