/- The greatest Index of a tree: heron/prog.greatest. -/
import Derived.BigQuiet
import Derived.Deep.QuietTactic
import Derived.Test.YtfgelkfnbohmmaaP03
import Derived.Test.YtfgelkfnbohmmaaP07
import Derived.Test.YtfgelkfnbohmmaaP26
namespace Go.Proofs.Ytfgelkfnbohmmaa
open Go.RowKit Go.Proofs.Ytfgelkfnbohmmaa.Tr
theorem grt_snoc : ∀ (a : List Tr.Tr) (t : Tr.Tr) (g : Int), greatests (a ++ [t]) g = max (greatests a g) (greatest t)
  | [], t, g => by rw [List.nil_append, greatests, greatests, greatests]
  | x :: a, t, g => by rw [List.cons_append, greatests, grt_snoc a, greatests]
set_option maxRecDepth 100000 in
set_option maxHeartbeats 1000000 in
theorem grt_any : ∀ (t : Ta) (S : Nat → Prop) (w : World), RT w S t → (∀ b, S b → b < w.heap.size) →
    Calls Try.prog 25 #[t.val] w fun e w' => e = .returned (.int .i64 (greatest t.tr)) ∧ Below w.heap.size w w' := by
  intro t
  induction t using Ta.ind with
  | h t ih =>
    intro S w h hS
    cases t with
    | mk k r ra rc ast l sa sc mn mx z ix nm =>
      obtain ⟨⟨-, -, hll, -⟩, hN, hL⟩ := h.parts
      have IH := Lib.hid ih
      have HN := Lib.hid hN
      have HL := Lib.hid hL
      have HS := Lib.hid hS
      clear ih hL hS h
      simp only [Ta.val, Ta.vals, Ta.tr, greatest]
      have hb0 : Below w.heap.size w (w.alloc (.cells #[.int .i64 k, .slice ra r.length rc, .int .i64 ast, .slice sa l.length sc, .int .i64 mn, .int .i64 mx, .bool z, .int .i64 ix, .string nm] 25)) := (Below.refl _ _).alloc (Nat.le_refl _) _
      have hbl := Blk.new w 25 [.int .i64 k, .slice ra r.length rc, .int .i64 ast, .slice sa l.length sc, .int .i64 mn, .int .i64 mx, .bool z, .int .i64 ix, .string nm]
      have hsc := hN.1
      have hsc2 := hN.2.1
      have HB0 := Lib.hid hb0
      have HBL := Lib.hid hbl
      clear hb0 hbl hN
      have k7 : (w.alloc (.cells #[.int .i64 k, .slice ra r.length rc, .int .i64 ast, .slice sa l.length sc, .int .i64 mn, .int .i64 mx, .bool z, .int .i64 ix, .string nm] 25)).cell? ⟨w.heap.size, 7, none⟩ = some (.int .i64 ix) := HBL.out.cell 7
      have k3 : (w.alloc (.cells #[.int .i64 k, .slice ra r.length rc, .int .i64 ast, .slice sa l.length sc, .int .i64 mn, .int .i64 mx, .bool z, .int .i64 ix, .string nm] 25)).cell? ⟨w.heap.size, 3, none⟩ = some (.slice sa l.length sc) := HBL.out.cell 3
      go_enter Try.func25, Try.ntmps25
      go_wp2_with fail
      generalize w.alloc (.cells #[.int .i64 k, .slice ra r.length rc, .int .i64 ast, .slice sa l.length sc, .int .i64 mn, .int .i64 mx, .bool z, .int .i64 ix, .string nm] 25) = w1 at *
      go_loopw [3, 11] (fun lv iv wr => ∃ (i : Nat), i ≤ l.length ∧ iv = .int .i64 (i : Int) ∧ lv = .int .i64 (greatests (trs (l.take i)) ix) ∧ Below w1.heap.size w1 wr) (fun _ iv _ => l.length - (intOf iv).toNat)
      case atStart => exact ⟨0, Nat.zero_le _, rfl, by rw [List.take_zero, trs, greatests], Below.refl _ _⟩
      case round =>
        obtain ⟨i, hi, rfl, rfl, hb⟩ := hrel
        have HB := Lib.hid hb
        clear hb
        by_cases hlt : i < l.length
        · have hlt2 : (i : Int) < (l.length : Int) := by omega
          obtain ⟨b, off, rfl, hSb, _⟩ := HN.out.2.2.2.2 (by omega)
          obtain ⟨u, hu⟩ : ∃ u, l[i]? = some u := ⟨_, List.getElem?_eq_getElem hlt⟩
          have hum : u ∈ l := List.mem_of_getElem? hu
          have hbb := HS.out b hSb
          have hbw := HB0.out.trans (HB.out.mono HB0.out.size)
          have hcell : ∀ j, j < 9 → wr.cell? ⟨b, off + i * 9 + j, none⟩ = u.vals[j]? := fun j hj => by
            rw [Nat.add_assoc, ← HN.out.node hu hj]
            exact hbw.cell (p := ⟨b, off + (i * 9 + j), none⟩) hbb
          have hba : Below wr.heap.size wr (wr.alloc (.cells u.vals.toArray 25)) := (Below.refl _ _).alloc (Nat.le_refl _) _
          have hin := IH.out u hum S (wr.alloc (.cells u.vals.toArray 25)) ((HL.out u hum).below HS.out (hbw.trans (hba.mono hbw.size))) (fun b hb => Nat.lt_of_lt_of_le (HS.out b hb) (Nat.le_trans hbw.size hba.size))
          have HST := Lib.hid (show greatests (trs (l.take (i + 1))) ix = max (greatests (trs (l.take i)) ix) (greatest u.tr) from by rw [List.take_add_one, hu, trs_map, trs_map, List.map_append]; exact grt_snoc _ _ _)
          have HBA := Lib.hid hba
          have HUB := Lib.hid (Blk.new wr 25 u.vals)
          generalize greatest u.tr = gu at *
          generalize greatests (trs (l.take i)) ix = gq at *
          cases u with
          | mk k' r' ra' rc' a' l' sa' sc' n' m' z' i' s' =>
          simp only [Ta.vals] at hcell HBA HUB
          simp only [Ta.val, Ta.vals] at hin
          have c0 := hcell 0 (by omega)
          have c1' := hcell 1 (by omega)
          have c2' := hcell 2 (by omega)
          have c3 := hcell 3 (by omega)
          have c4 := hcell 4 (by omega)
          have c5 := hcell 5 (by omega)
          have c6 := hcell 6 (by omega)
          have c7 := hcell 7 (by omega)
          have c8 := hcell 8 (by omega)
          simp only [List.getElem?_cons_zero, List.getElem?_cons_succ, Nat.add_zero] at c0 c1' c2' c3 c4 c5 c6 c7 c8
          have HIN := Lib.hid hin
          clear hin hcell hu hba hbw hum
          go_wp2_with (go_at_call 25; refine HIN.out.mono ?_; rintro e w2 ⟨rfl, hb2⟩; have HB2 := Lib.hid hb2; clear hb2; simp only [])
          go_roundw
          case rel =>
            exact ⟨i + 1, by omega, by go_num, by rw [HST.out]; exact congrArg (Value.int .i64) (by show (if gq < gu then gu else gq) = max gq gu; omega), HB.out.trans ((HBA.out.trans (HB2.out.mono HBA.out.size)).mono HB.out.size)⟩
          case measure => simp [intOf]; omega
        · obtain rfl : i = l.length := by omega
          have hlt2 : ¬ ((l.length : Int) < (l.length : Int)) := by omega
          go_wp2_with fail
          go_ret
          exact ⟨rfl, HB0.out.trans (HB.out.mono HB0.out.size)⟩
end Go.Proofs.Ytfgelkfnbohmmaa
namespace Go.Proofs.Ytfgelkfnbohmmaa
open Go.RowKit Go.Proofs.Ytfgelkfnbohmmaa.Mach
theorem cells_two (w : World) (t : TypeId) (cs ds : List Value) : Blk ((w.alloc (.cells cs.toArray t)).alloc (.cells ds.toArray t)) w.heap.size t cs ∧ Blk ((w.alloc (.cells cs.toArray t)).alloc (.cells ds.toArray t)) (w.heap.size + 1) t ds := by
  refine ⟨(Blk.new w t cs).alloc _, ?_⟩
  have := Blk.new (w.alloc (.cells cs.toArray t)) t ds
  rw [show (w.alloc (.cells cs.toArray t)).heap.size = w.heap.size + 1 from by simp] at this
  exact this
set_option maxRecDepth 100000 in
set_option maxHeartbeats 4000000 in
theorem sameP_any (L1 L2 : List InV) (hL : insL L1 = insL L2) (A1 A2 : Option Addr) (n c1 c2 : Nat) (start caps : Int) (w : World) (h1 : ReadsP w w.heap.size A1 n c1 L1) (h2 : ReadsP w w.heap.size A2 n c2 L2)
    : Calls Try.prog 19 #[.agg #[.slice A1 n c1, .int .i64 start, .int .i64 caps], .agg #[.slice A2 n c2, .int .i64 start, .int .i64 caps]] w fun e w' => e = .returned (.bool true) ∧ Below w.heap.size w w' := by
  have hl1 := h1.len
  have hl2 := h2.len
  have hnc1 := h1.1.le
  have hnc2 := h2.1.le
  have hcp1 := h1.1.cap
  have hcp2 := h2.1.cap
  obtain ⟨hB1, hB2⟩ := cells_two w 30 [.slice A1 n c1, .int .i64 start, .int .i64 caps] [.slice A2 n c2, .int .i64 start, .int .i64 caps]
  have hb0 : Below w.heap.size w ((w.alloc (.cells #[.slice A1 n c1, .int .i64 start, .int .i64 caps] 30)).alloc (.cells #[.slice A2 n c2, .int .i64 start, .int .i64 caps] 30)) := ((Below.refl _ _).alloc (Nat.le_refl _) _).alloc (by simp) _
  have HB1 := Lib.hid hB1
  have HB2 := Lib.hid hB2
  have HB0 := Lib.hid hb0
  have H1 := Lib.hid (h1.below hb0)
  have H2 := Lib.hid (h2.below hb0)
  have HL := Lib.hid hL
  clear hB1 hB2 hb0 h1 h2 hL
  go_enter Try.func19, Try.ntmps19
  go_wp2_with fail
  generalize (w.alloc (.cells #[.slice A1 n c1, .int .i64 start, .int .i64 caps] 30)).alloc (.cells #[.slice A2 n c2, .int .i64 start, .int .i64 caps] 30) = w1 at *
  go_loopw [5] (fun q wr => ∃ i : Nat, i ≤ n ∧ q = .int .i64 i ∧ Below w1.heap.size w1 wr) (fun q _ => n - (intOf q).toNat)
  case atStart => exact ⟨0, Nat.zero_le _, rfl, Below.refl _ _⟩
  case round =>
    obtain ⟨i, hi, rfl, hb⟩ := hrel
    obtain ⟨wo, hwo⟩ : ∃ wo, wo = wr := ⟨_, rfl⟩
    subst hwo
    have r1 : wo.cell? ⟨w.heap.size, 0, none⟩ = some (.slice A1 n c1) := (HB1.out.below hb HB1.out.lt).cell 0
    have r2 : wo.cell? ⟨w.heap.size + 1, 0, none⟩ = some (.slice A2 n c2) := (HB2.out.below hb HB2.out.lt).cell 0
    have HSZ := HB0.out.size
    by_cases hlt : i < n
    · have hlt2 : (i : Int) < (n : Int) := by omega
      obtain ⟨a1, o1, hA1, ha1⟩ := H1.out.at_ (by omega)
      obtain ⟨a2, o2, hA2, ha2⟩ := H2.out.at_ (by omega)
      subst hA1 hA2
      obtain ⟨v1, hv1⟩ : ∃ v, L1[i]? = some v := ⟨_, List.getElem?_eq_getElem (by omega)⟩
      obtain ⟨v2, hv2⟩ : ∃ v, L2[i]? = some v := ⟨_, List.getElem?_eq_getElem (by omega)⟩
      have hvv : v1.I = v2.I := by
        have := congrArg (·[i]?) HL.out
        simp only [insL, List.getElem?_map, hv1, hv2, Option.map_some, Option.some.injEq] at this
        exact this
      have hb1 := (H1.out.more HSZ).below hb
      have hb2 := (H2.out.more HSZ).below hb
      obtain ⟨i0, i1, i2, i3, i4⟩ := hb1.cells hv1
      obtain ⟨j0, j1, j2, j3, j4⟩ := hb2.cells hv2
      have hr1 := (hb1.2 _ (List.mem_of_getElem? hv1)).1
      have hr2 := (hb2.2 _ (List.mem_of_getElem? hv2)).1
      clear hv1 hv2 hb1 hb2
      obtain ⟨⟨op, x, y, arg, rng⟩, vA, vn, vc⟩ := v1
      obtain ⟨I2, uA, un, uc⟩ := v2
      simp only [] at hvv
      subst hvv
      simp only [] at i0 i1 i2 i3 i4 j0 j1 j2 j3 j4 hr1 hr2
      have hlr : rng.length = vn := by have := hr1.len; rw [flat_length] at this; omega
      obtain rfl : un = vn := by have := hr2.len; rw [flat_length] at this; omega
      have HB := Lib.hid hb
      have HLR := Lib.hid hlr
      have hq2 : w.heap.size + 1 < wo.heap.size := by have h1 := HB2.out.lt; have h2 := hb.size; omega
      have hq1 : w.heap.size < wo.heap.size := by omega
      have hlt1 : a1 < wo.heap.size := by have := hb.size; omega
      have hlt3 : a2 < wo.heap.size := by have := hb.size; omega
      have hle1 := hr1.le
      have hle2 := hr2.le
      have hcc1 := hr1.cap
      have hcc2 := hr2.cap
      obtain ⟨hI1, hI2⟩ := cells_two wo 54 (insVals ⟨op, x, y, arg, rng⟩ vA un vc) (insVals ⟨op, x, y, arg, rng⟩ uA un uc)
      simp only [insVals] at hI1 hI2
      have HI1 := Lib.hid hI1
      have HI2 := Lib.hid hI2
      have hbI : Below w1.heap.size w1 ((wo.alloc (.cells #[.int .i64 op, .int .i64 x, .int .i64 y, .int .i64 arg, .slice vA un vc] 54)).alloc (.cells #[.int .i64 op, .int .i64 x, .int .i64 y, .int .i64 arg, .slice uA un uc] 54)) := (hb.alloc hb.size _).alloc (by have := hb.size; simp; omega) _
      have HBI := Lib.hid hbI
      have hbJ : Below w1.heap.size wo ((wo.alloc (.cells #[.int .i64 op, .int .i64 x, .int .i64 y, .int .i64 arg, .slice vA un vc] 54)).alloc (.cells #[.int .i64 op, .int .i64 x, .int .i64 y, .int .i64 arg, .slice uA un uc] 54)) := ((Below.refl _ _).alloc hb.size _).alloc (by have := hb.size; simp; omega) _
      have HR1 := Lib.hid (hr1.below hbJ)
      have HR2 := Lib.hid (hr2.below hbJ)
      clear hbJ
      clear hr1 hr2 hb hI1 hI2 hbI hlr
      go_wp2_with fail
      generalize (wo.alloc (.cells #[.int .i64 op, .int .i64 x, .int .i64 y, .int .i64 arg, .slice vA un vc] 54)).alloc (.cells #[.int .i64 op, .int .i64 x, .int .i64 y, .int .i64 arg, .slice uA un uc] 54) = w2 at *
      clear i0 i1 i2 i3 i4 j0 j1 j2 j3 j4 r1 r2
      have HWS := Lib.hid (show w1.heap.size ≤ wo.heap.size from HB.out.size)

      go_loopw [8] (fun q wq => ∃ k : Nat, k ≤ un ∧ q = .int .i64 k ∧ Below w2.heap.size w2 wq) (fun q _ => un - (intOf q).toNat)
      case atStart => exact ⟨0, Nat.zero_le _, rfl, Below.refl _ _⟩
      case round =>
        obtain ⟨k, hk, rfl, hq⟩ := hrel
        have s1 : wr.cell? ⟨wo.heap.size, 4, none⟩ = some (.slice vA un vc) := (HI1.out.below hq HI1.out.lt).cell 4
        have s2 : wr.cell? ⟨wo.heap.size + 1, 4, none⟩ = some (.slice uA un uc) := (HI2.out.below hq HI2.out.lt).cell 4
        have HQ := Lib.hid hq
        clear hq
        by_cases hkl : k < un
        · have hkl2 : (k : Int) < (un : Int) := by omega
          obtain ⟨p1, o1, hA1, hl1, hc1⟩ := HR1.out.at_ (by omega)
          obtain ⟨p2, o2, hA2, hl2, hc2⟩ := HR2.out.at_ (by omega)
          subst hA1 hA2
          have hw2s := HBI.out.size
          obtain ⟨z, hz⟩ : ∃ z, rng[k]? = some z := ⟨_, List.getElem?_eq_getElem (by have := HLR.out; omega)⟩
          have hg := flat_get rng _ _ hz
          have e1 : wr.cell? ⟨p1, o1 + k * 2, none⟩ = some (.int .i64 z.1) := (HQ.out.cell (p := ⟨p1, o1 + k * 2, none⟩) (by simp only []; omega)).trans (hc1 _ _ hg.1)
          have e2 : wr.cell? ⟨p1, o1 + k * 2 + 1, none⟩ = some (.int .i64 z.2) := (HQ.out.cell (p := ⟨p1, o1 + k * 2 + 1, none⟩) (by simp only []; omega)).trans (hc1 (k * 2 + 1) _ hg.2)
          have e3 : wr.cell? ⟨p2, o2 + k * 2, none⟩ = some (.int .i64 z.1) := (HQ.out.cell (p := ⟨p2, o2 + k * 2, none⟩) (by simp only []; omega)).trans (hc2 _ _ hg.1)
          have e4 : wr.cell? ⟨p2, o2 + k * 2 + 1, none⟩ = some (.int .i64 z.2) := (HQ.out.cell (p := ⟨p2, o2 + k * 2 + 1, none⟩) (by simp only []; omega)).trans (hc2 (k * 2 + 1) _ hg.2)
          obtain ⟨z1, z2⟩ := z
          simp only [] at e1 e2 e3 e4
          clear hc1 hc2 hz hg
          go_wp2_with fail
          go_quiet (fail)
          go_wp2_with fail
          go_roundw
          case rel => exact ⟨k + 1, by omega, by go_num, bdrewN HQ.out nq⟩
          case measure => simp [intOf]; omega
        · obtain rfl : k = un := by omega
          go_wp2_with fail
          go_roundw
          case rel => exact ⟨i + 1, by omega, by go_num, HBI.out.trans (HQ.out.mono HBI.out.size)⟩
          case measure => simp [intOf]; omega
    · obtain rfl : i = n := by omega
      have HB := Lib.hid hb
      clear hb
      go_wp2_with fail
      go_ret
      exact ⟨rfl, HB0.out.trans (HB.out.mono HB0.out.size)⟩
end Go.Proofs.Ytfgelkfnbohmmaa
