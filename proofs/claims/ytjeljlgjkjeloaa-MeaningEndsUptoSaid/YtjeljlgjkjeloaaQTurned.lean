/- heronlaw06.turned: alternatives the other way round, loops lazy or not. -/
import Derived.Test.YtjeljlgjkjeloaaQTn0
namespace Go.Proofs.Ytjeljlgjkjeloaa
open Go.RowKit Go.Proofs.Ytjeljlgjkjeloaa.Tr

mutual
/-- The same tree, but for the order of alternatives and the laziness of loops. -/
inductive TurnR : Tr.Tr → Tr.Tr → Prop
  | mk {k : Int} {r : List (Int × Int)} {a : Int} {l l0 l' : List Tr.Tr} {n m : Int} {z z' : Bool} {i : Int} {s : ByteArray} : TurnRs l l0 → (l' = l0 ∨ (k = 5 ∧ l' = l0.reverse)) → (z' = z ∨ k = 6) → TurnR (.mk k r a l n m z i s) (.mk k r a l' n m z' i s)
inductive TurnRs : List Tr.Tr → List Tr.Tr → Prop
  | nil : TurnRs [] []
  | cons {t u : Tr.Tr} {l l0 : List Tr.Tr} : TurnR t u → TurnRs l l0 → TurnRs (t :: l) (u :: l0)
end
theorem TurnRs.snoc : ∀ {l l0 : List Tr.Tr} {t u : Tr.Tr}, TurnRs l l0 → TurnR t u → TurnRs (l ++ [t]) (l0 ++ [u])
  | [], [], _, _, .nil, h => .cons h .nil
  | _ :: _, _ :: _, _, _, .cons h1 h2, h => .cons h1 (TurnRs.snoc h2 h)
theorem results_pair {fn : Func} {p u : Tmp} (h : fn.results = #[.cell p 28, .tmp u]) (tmps : Array Value) (w : World) (g : Nat) (t : Ta) (hp : tmps.getD p undef = .pointer (some ⟨g, 0, none⟩)) (hg : Blk w g 28 t.vals) :
    (results fn tmps).run Try.prog w = .ok (.tuple #[t.val, tmps.getD u undef]) w := by
  obtain ⟨d, hu, hd⟩ := und_nodeM
  have hs : (Try.prog.info? 28).map (·.size) = some t.vals.toArray.size := by rw [size_nodeM, List.size_toArray, Ta.vals_length]
  exact results_cell_tmp_row h tmps w g 28 t.vals.toArray d hp (by simpa using hg) hu hd hs
def TurnOk (t : Ta) : Prop := ∀ (S : Nat → Prop) (w : World) (R : Option Addr) (rn rcp : Nat) (raw : List Int) (n : Nat), RT w S t → (∀ b, S b → b < w.heap.size) → RdA w S 1 R rn rcp (raw.map (Value.int .i64)) → n + size t.tr ≤ 1099511627776 →
    Calls Try.prog 16 #[t.val, .slice R rn rcp, .int .i64 (n : Int)] w fun e w' => ∃ u : Ta, e = .returned (.tuple #[u.val, .int .i64 ((n + size t.tr : Nat) : Int)]) ∧ TurnR t.tr u.tr ∧ RT w' (Sx S w.heap.size [] w') u ∧ Below w.heap.size w w'
set_option maxRecDepth 100000 in
set_option maxHeartbeats 8000000 in
theorem turned_any : ∀ t : Ta, TurnOk t := by
  intro t
  induction t using Ta.ind with
  | h t ih =>
    intro S w R rn rcp raw n h hS hraw hsz
    cases t with
    | mk k r ra rc ast l sa sc mn mx z ix nm =>
    obtain ⟨i0, hinf, hz0, hz1, hz2⟩ := info_parts info_nodeM
    obtain ⟨⟨hR, hrl, hll, hnm⟩, hN, hL⟩ := h.parts
    have hsc := hN.1
    have hsc2 := hN.2.1
    have hns : NS w [.int .i64 k, .slice ra r.length rc, .int .i64 ast, .slice sa l.length sc, .int .i64 mn, .int .i64 mx, .bool z, .int .i64 ix, .string nm] ((w.alloc (.cells #[.int .i64 k, .slice ra r.length rc, .int .i64 ast, .slice sa l.length sc, .int .i64 mn, .int .i64 mx, .bool z, .int .i64 ix, .string nm] 28)).alloc (.cells #[.int .i64 0, .slice none 0 0, .int .i64 0, .slice none 0 0, .int .i64 0, .int .i64 0, .bool false, .int .i64 0, .string ⟨#[]⟩] 28)) := ⟨two_below w _ _, (Blk.new w 28 [.int .i64 k, .slice ra r.length rc, .int .i64 ast, .slice sa l.length sc, .int .i64 mn, .int .i64 mx, .bool z, .int .i64 ix, .string nm]).alloc _, two_blk w _ 28 [.int .i64 0, .slice none 0 0, .int .i64 0, .slice none 0 0, .int .i64 0, .int .i64 0, .bool false, .int .i64 0, .string ⟨#[]⟩]⟩
    have HNS := Lib.hid hns
    have HIH := Lib.hid ih
    have HR := Lib.hid hR
    have HN := Lib.hid hN
    have HL := Lib.hid hL
    have HSS := Lib.hid hS
    have HRAW := Lib.hid hraw
    rw [Ta.tr_size] at hsz ⊢
    obtain ⟨T, hT⟩ : ∃ T, T = (Ta.mk k r ra rc ast l sa sc mn mx z ix nm).tr := ⟨_, rfl⟩
    rw [← hT]
    have HT := Lib.hid (show T = Tr.mk k r ast (trs l) mn mx z ix nm from by rw [hT, Ta.tr])
    obtain ⟨q, hq⟩ : ∃ q, q = sizes (trs l) := ⟨_, rfl⟩
    rw [← hq] at hsz ⊢
    have HQ := Lib.hid hq
    have hrl1 : rn ≤ rcp := hraw.1
    have hrl2 : rcp ≤ 9223372036854775807 := hraw.2.1
    clear ih hR hN hL hS h hns hT hraw hq
    have k0 : ((w.alloc (.cells #[.int .i64 k, .slice ra r.length rc, .int .i64 ast, .slice sa l.length sc, .int .i64 mn, .int .i64 mx, .bool z, .int .i64 ix, .string nm] 28)).alloc (.cells #[.int .i64 0, .slice none 0 0, .int .i64 0, .slice none 0 0, .int .i64 0, .int .i64 0, .bool false, .int .i64 0, .string ⟨#[]⟩] 28)).cell? ⟨w.heap.size, 0, none⟩ = some (.int .i64 k) := HNS.out.node.cell 0
    have k3 : ((w.alloc (.cells #[.int .i64 k, .slice ra r.length rc, .int .i64 ast, .slice sa l.length sc, .int .i64 mn, .int .i64 mx, .bool z, .int .i64 ix, .string nm] 28)).alloc (.cells #[.int .i64 0, .slice none 0 0, .int .i64 0, .slice none 0 0, .int .i64 0, .int .i64 0, .bool false, .int .i64 0, .string ⟨#[]⟩] 28)).cell? ⟨w.heap.size, 3, none⟩ = some (.slice sa l.length sc) := HNS.out.node.cell 3
    have hw0 : IntKind.i64.wrap ((n : Int) + 1) = ((n + 1 : Nat) : Int) := by rw [IntKind.wrap_i64]; omega
    simp only [Ta.val, Ta.vals]
    go_enter Try.func16, Try.ntmps16
    by_cases hf : n < rn
    · have hf2 : (n : Int) < (rn : Int) := by omega
      obtain ⟨b, off, rfl, hSb, hrc⟩ := HRAW.out.2.2.2.2 (by omega)
      have hlr : n < raw.length := by have := HRAW.out.2.2.1; rw [List.length_map] at this; omega
      have y0 : ((w.alloc (.cells #[.int .i64 k, .slice ra r.length rc, .int .i64 ast, .slice sa l.length sc, .int .i64 mn, .int .i64 mx, .bool z, .int .i64 ix, .string nm] 28)).alloc (.cells #[.int .i64 0, .slice none 0 0, .int .i64 0, .slice none 0 0, .int .i64 0, .int .i64 0, .bool false, .int .i64 0, .string ⟨#[]⟩] 28)).cell? ⟨b, off + n, none⟩ = some (.int .i64 raw[n]) := (HNS.out.below.cell (p := ⟨b, off + n, none⟩) (HSS.out b hSb)).trans (hrc n _ (by rw [List.getElem?_map, List.getElem?_eq_getElem hlr]; rfl))
      generalize raw[n] = x0 at *
      clear hrc
      go_wp2_with fail
      generalize (x0.tmod 2 != 0) = fl at *
      generalize ((w.alloc (.cells #[.int .i64 k, .slice ra r.length rc, .int .i64 ast, .slice sa l.length sc, .int .i64 mn, .int .i64 mx, .bool z, .int .i64 ix, .string nm] 28)).alloc (.cells #[.int .i64 0, .slice none 0 0, .int .i64 0, .slice none 0 0, .int .i64 0, .int .i64 0, .bool false, .int .i64 0, .string ⟨#[]⟩] 28)) = w1 at *
      go_loopw [2, 9, 10] (fun nv sv iv wr => ∃ (i m : Nat) (us : List Ta), i ≤ l.length ∧ iv = .int .i64 (i : Int) ∧ nv = .int .i64 (m : Int) ∧ m = n + 1 + sizes (trs (l.take i)) ∧ us.length = i ∧ TurnRs (trs (l.take i)) (trs us) ∧ RowN S (w.heap.size + 2) sv us wr ∧ NS w [.int .i64 k, .slice ra r.length rc, .int .i64 ast, .slice sa l.length sc, .int .i64 mn, .int .i64 mx, .bool z, .int .i64 ix, .string nm] wr) (fun _ _ iv _ => l.length - (intOf iv).toNat)
      case atStart => exact ⟨0, n + 1, [], Nat.zero_le _, rfl, by simp, by simp [trs, sizes], rfl, .nil, RowN.nil _ _ _, HNS.out⟩
      case round =>
        obtain ⟨i, mm, us, hi, rfl, rfl, hm, hul, hut, hrow, hns⟩ := hrel
        have HNR := Lib.hid hns
        have HM0 := Lib.hid hm
        have r3 : wr.cell? ⟨w.heap.size, 3, none⟩ = some (.slice sa l.length sc) := hns.node.cell 3
        obtain ⟨A, c, rfl⟩ := own_shape hrow.own
        have HROW := Lib.hid hrow
        have HUT := Lib.hid hut
        have hle : sizes (trs (l.take i)) ≤ q := HQ.out ▸ sizes_take_le l i
        have hmb : mm ≤ 1099511627776 := by omega
        clear hns hrow hut hm hle
        by_cases hlt : i < l.length
        · have hlt2 : (i : Int) < (l.length : Int) := by omega
          obtain ⟨b0, off0, rfl, hSb0, _⟩ := HN.out.2.2.2.2 (by omega)
          obtain ⟨u, hu⟩ : ∃ u, l[i]? = some u := ⟨_, List.getElem?_eq_getElem hlt⟩
          have hum : u ∈ l := List.mem_of_getElem? hu
          have hbb := HSS.out b0 hSb0
          have hcell : ∀ j, j < 9 → wr.cell? ⟨b0, off0 + i * 9 + j, none⟩ = u.vals[j]? := fun j hj => by
            rw [Nat.add_assoc, ← HN.out.node hu hj]
            exact HNR.out.below.cell (p := ⟨b0, off0 + (i * 9 + j), none⟩) hbb
          have hstep : sizes (trs (l.take (i + 1))) = sizes (trs (l.take i)) + size u.tr := sizes_take hu
          have hle2 : sizes (trs (l.take (i + 1))) ≤ q := HQ.out ▸ sizes_take_le l (i + 1)
          have hin := HIH.out u hum S wr (some ⟨b, off, none⟩) rn rcp raw mm ((HL.out u hum).below HSS.out HNR.out.below) (fun b hb => Nat.lt_of_lt_of_le (HSS.out b hb) HNR.out.below.size) (HRAW.out.go fun b hb => HNR.out.below.block b (HSS.out b hb)) (by have := HM0.out; omega)
          have HST := Lib.hid (show mm + size u.tr = n + 1 + sizes (trs (l.take (i + 1))) ∧ mm + size u.tr ≤ 1099511627776 from by have := HM0.out; omega)
          have HTK1 := Lib.hid (show trs (l.take (i + 1)) = trs (l.take i) ++ [u.tr] from by rw [List.take_add_one, hu, trs_map, trs_map, List.map_append]; rfl)
          clear hstep hle2
          generalize size u.tr = zu at *
          cases u with
          | mk k' r' ra' rc' a' l' sa' sc' n' m' z' i' s' =>
          simp only [Ta.vals] at hcell
          simp only [Ta.val, Ta.vals] at hin
          have c0 := hcell 0 (by omega)
          have c1' := hcell 1 (by omega)
          have c2' := hcell 2 (by omega)
          have c3 := hcell 3 (by omega)
          have c4 := hcell 4 (by omega)
          have c5 := hcell 5 (by omega)
          have c6 := hcell 6 (by omega)
          have c7 := hcell 7 (by omega)
          have c8 := hcell 8 (by omega)
          simp only [List.getElem?_cons_zero, List.getElem?_cons_succ, Nat.add_zero] at c0 c1' c2' c3 c4 c5 c6 c7 c8
          have HIN := Lib.hid hin
          clear hin hcell hu hum
          go_wp2_with fail
          refine HIN.out.mono ?_
          rintro e w2 ⟨u, rfl, htr, hrt, hb2⟩
          obtain ⟨k2, r2, ra2, rc2, a2, l2, sa2, sc2, n2, m2, z2, i2, s2⟩ := u
          have hwr := HNR.out.below.size
          have hws := HNR.out.res.lt
          have hS2 : ∀ b, S b → b < (w.heap.size + 2) := fun b hb => by have := HSS.out b hb; omega
          have hba : Below w2.heap.size w2 ((w2.alloc (.cells #[.int .i64 k2, .slice ra2 r2.length rc2, .int .i64 a2, .slice sa2 l2.length sc2, .int .i64 n2, .int .i64 m2, .bool z2, .int .i64 i2, .string s2] 28)).alloc (.cells #[.int .i64 k2, .slice ra2 r2.length rc2, .int .i64 a2, .slice sa2 l2.length sc2, .int .i64 n2, .int .i64 m2, .bool z2, .int .i64 i2, .string s2] 28)) := two_below w2 _ _
          have hbb2 : Below wr.heap.size wr ((w2.alloc (.cells #[.int .i64 k2, .slice ra2 r2.length rc2, .int .i64 a2, .slice sa2 l2.length sc2, .int .i64 n2, .int .i64 m2, .bool z2, .int .i64 i2, .string s2] 28)).alloc (.cells #[.int .i64 k2, .slice ra2 r2.length rc2, .int .i64 a2, .slice sa2 l2.length sc2, .int .i64 n2, .int .i64 m2, .bool z2, .int .i64 i2, .string s2] 28)) := hb2.trans (hba.mono hb2.size)
          have HRA := Lib.hid (HROW.out.below hS2 (by omega) hbb2)
          have HNA := Lib.hid (HNR.out.bel hbb2)
          have hown : ∀ b ∈ (Value.slice A us.length c).ownBlock.toList, b < wr.heap.size := fun b hb => (HROW.out.own.lt b (by simpa using hb)).2
          have hs2 := hb2.size
          have HUA := Lib.hid (((hrt.sx_in (L := (Value.slice A us.length c).ownBlock.toList) (show (w.heap.size + 2) ≤ wr.heap.size from by omega) hown).sx_below hS2 (by omega) hba))
          have HTR := Lib.hid htr
          have hnw : Reads ((w2.alloc (.cells #[.int .i64 k2, .slice ra2 r2.length rc2, .int .i64 a2, .slice sa2 l2.length sc2, .int .i64 n2, .int .i64 m2, .bool z2, .int .i64 i2, .string s2] 28)).alloc (.cells #[.int .i64 k2, .slice ra2 r2.length rc2, .int .i64 a2, .slice sa2 l2.length sc2, .int .i64 n2, .int .i64 m2, .bool z2, .int .i64 i2, .string s2] 28)) ((w2.alloc (.cells #[.int .i64 k2, .slice ra2 r2.length rc2, .int .i64 a2, .slice sa2 l2.length sc2, .int .i64 n2, .int .i64 m2, .bool z2, .int .i64 i2, .string s2] 28)).alloc (.cells #[.int .i64 k2, .slice ra2 r2.length rc2, .int .i64 a2, .slice sa2 l2.length sc2, .int .i64 n2, .int .i64 m2, .bool z2, .int .i64 i2, .string s2] 28)).heap.size 9 (some ⟨w2.heap.size + 1, 0, none⟩) 1 1 (Ta.mk k2 r2 ra2 rc2 a2 l2 sa2 sc2 n2 m2 z2 i2 s2).vals := by
            have := (two_blk w2 (.cells #[.int .i64 k2, .slice ra2 r2.length rc2, .int .i64 a2, .slice sa2 l2.length sc2, .int .i64 n2, .int .i64 m2, .bool z2, .int .i64 i2, .string s2] 28) 28 (Ta.mk k2 r2 ra2 rc2 a2 l2 sa2 sc2 n2 m2 z2 i2 s2).vals).reads (size := 9) (n := 1) (c := 1) (by omega) (by omega) (by rw [Ta.vals_length]; omega)
            rwa [List.take_of_length_le (by rw [Ta.vals_length]; omega)] at this
          have HNEW := Lib.hid hnw
          have HS2 := Lib.hid (Blk.new w2 28 (Ta.mk k2 r2 ra2 rc2 a2 l2 sa2 sc2 n2 m2 z2 i2 s2).vals)
          have d0 : (w2.alloc (.cells #[.int .i64 k2, .slice ra2 r2.length rc2, .int .i64 a2, .slice sa2 l2.length sc2, .int .i64 n2, .int .i64 m2, .bool z2, .int .i64 i2, .string s2] 28)).cell? ⟨w2.heap.size, 0, none⟩ = some (.int .i64 k2) := HS2.out.cell 0
          have d1 : (w2.alloc (.cells #[.int .i64 k2, .slice ra2 r2.length rc2, .int .i64 a2, .slice sa2 l2.length sc2, .int .i64 n2, .int .i64 m2, .bool z2, .int .i64 i2, .string s2] 28)).cell? ⟨w2.heap.size, 1, none⟩ = some (.slice ra2 r2.length rc2) := HS2.out.cell 1
          have d2 : (w2.alloc (.cells #[.int .i64 k2, .slice ra2 r2.length rc2, .int .i64 a2, .slice sa2 l2.length sc2, .int .i64 n2, .int .i64 m2, .bool z2, .int .i64 i2, .string s2] 28)).cell? ⟨w2.heap.size, 2, none⟩ = some (.int .i64 a2) := HS2.out.cell 2
          have d3 : (w2.alloc (.cells #[.int .i64 k2, .slice ra2 r2.length rc2, .int .i64 a2, .slice sa2 l2.length sc2, .int .i64 n2, .int .i64 m2, .bool z2, .int .i64 i2, .string s2] 28)).cell? ⟨w2.heap.size, 3, none⟩ = some (.slice sa2 l2.length sc2) := HS2.out.cell 3
          have d4 : (w2.alloc (.cells #[.int .i64 k2, .slice ra2 r2.length rc2, .int .i64 a2, .slice sa2 l2.length sc2, .int .i64 n2, .int .i64 m2, .bool z2, .int .i64 i2, .string s2] 28)).cell? ⟨w2.heap.size, 4, none⟩ = some (.int .i64 n2) := HS2.out.cell 4
          have d5 : (w2.alloc (.cells #[.int .i64 k2, .slice ra2 r2.length rc2, .int .i64 a2, .slice sa2 l2.length sc2, .int .i64 n2, .int .i64 m2, .bool z2, .int .i64 i2, .string s2] 28)).cell? ⟨w2.heap.size, 5, none⟩ = some (.int .i64 m2) := HS2.out.cell 5
          have d6 : (w2.alloc (.cells #[.int .i64 k2, .slice ra2 r2.length rc2, .int .i64 a2, .slice sa2 l2.length sc2, .int .i64 n2, .int .i64 m2, .bool z2, .int .i64 i2, .string s2] 28)).cell? ⟨w2.heap.size, 6, none⟩ = some (.bool z2) := HS2.out.cell 6
          have d7 : (w2.alloc (.cells #[.int .i64 k2, .slice ra2 r2.length rc2, .int .i64 a2, .slice sa2 l2.length sc2, .int .i64 n2, .int .i64 m2, .bool z2, .int .i64 i2, .string s2] 28)).cell? ⟨w2.heap.size, 7, none⟩ = some (.int .i64 i2) := HS2.out.cell 7
          have d8 : (w2.alloc (.cells #[.int .i64 k2, .slice ra2 r2.length rc2, .int .i64 a2, .slice sa2 l2.length sc2, .int .i64 n2, .int .i64 m2, .bool z2, .int .i64 i2, .string s2] 28)).cell? ⟨w2.heap.size, 8, none⟩ = some (.string s2) := HS2.out.cell 8
          have hsz2 : (w.heap.size + 2) ≤ ((w2.alloc (.cells #[.int .i64 k2, .slice ra2 r2.length rc2, .int .i64 a2, .slice sa2 l2.length sc2, .int .i64 n2, .int .i64 m2, .bool z2, .int .i64 i2, .string s2] 28)).alloc (.cells #[.int .i64 k2, .slice ra2 r2.length rc2, .int .i64 a2, .slice sa2 l2.length sc2, .int .i64 n2, .int .i64 m2, .bool z2, .int .i64 i2, .string s2] 28)).heap.size := by simp; omega
          have hn1 : us.length + 1 ≤ 1048576 := by omega
          clear htr hrt hb2 hba hbb2 hown hS2 c0 c1' c2' c3 c4 c5 c6 c7 c8 hnw
          simp only []
          go_wp2_with (at_builtin; refine wpList_append_reads rfl (.tmp 48) (.tmp 50) 26 rfl (w.heap.size + 2) 28 i0 (.agg #[.int .i64 0, .slice none 0 0, .int .i64 0, .slice none 0 0, .int .i64 0, .int .i64 0, .bool false, .int .i64 0, .string ⟨#[]⟩]) 9 112 Try.underlying26 hinf hz0 hz1 hz2 rfl (by decide) (.slice A us.length c) us.length (rowT us) rfl HRA.out.own (some ⟨w2.heap.size + 1, 0, none⟩) _ 1 1 (Ta.mk k2 r2 ra2 rc2 a2 l2 sa2 sc2 n2 m2 z2 i2 s2).vals rfl (fun h => by cases h) HNEW.out (Ta.mk k2 r2 ra2 rc2 a2 l2 sa2 sc2 n2 m2 z2 i2 s2).one (by unfold maxLen; omega) (by omega) hsz2 ?_; intro v3 w3 ha3; have HA3 := Lib.hid ha3; clear ha3)
          go_roundw
          case rel =>
            have hp := HRA.out.put (fun b hb => by have := HSS.out b hb; omega) hsz2 HUA.out HA3.out
            refine ⟨i + 1, mm + zu, us ++ [(Ta.mk k2 r2 ra2 rc2 a2 l2 sa2 sc2 n2 m2 z2 i2 s2)], by omega, by go_num, by first | rfl | simp, HST.out.1, by simp [hul], ?_, hp, HNA.out.kept (Kept.of_grown' HA3.out.grown) fun g hg => ?_⟩
            · rw [HTK1.out, show trs (us ++ [(Ta.mk k2 r2 ra2 rc2 a2 l2 sa2 sc2 n2 m2 z2 i2 s2)]) = trs us ++ [(Ta.mk k2 r2 ra2 rc2 a2 l2 sa2 sc2 n2 m2 z2 i2 s2).tr] from by rw [trs_map, List.map_append, ← trs_map]; rfl]; exact HUT.out.snoc HTR.out
            · have := (HRA.out.own.lt g (by simpa using hg)).1; omega
          case measure => simp [intOf]; omega
        · obtain rfl : i = l.length := by omega
          have hlt2 : ¬ ((l.length : Int) < (l.length : Int)) := by omega
          obtain ⟨wo, rfl⟩ : ∃ wo, wo = wr := ⟨_, rfl⟩
          have HUT2 := Lib.hid (show TurnRs (trs l) (trs us) from by have := HUT.out; rwa [List.take_length] at this)
          have HM := Lib.hid (show mm = n + (q + 1) from by have := HM0.out; rw [List.take_length, ← HQ.out] at this; omega)
          have hr0 : wo.cell? ⟨w.heap.size, 0, none⟩ = some (.int .i64 k) := HNR.out.node.cell 0
          have HUL := Lib.hid hul
          have HRR := Lib.hid (show RdA wo (Sx S (w.heap.size + 2) [] wo) 2 ra r.length rc (flat r) from (HR.out.go fun b hb => HNR.out.below.block b (HSS.out b hb)).mono fun b hb => .inl hb)
          have HLE := Lib.hid (show us.length ≤ 1048576 from by omega)
          have HLO := Lib.hid (show ∀ b, Sx S (w.heap.size + 2) [] wo b → b < wo.heap.size from fun b hb => hb.elim (fun h => Nat.lt_of_lt_of_le (HSS.out b h) HNR.out.below.size) fun h => h.2.1)
          have HFAR := Lib.hid (show ∀ b, Sx S (w.heap.size + 2) [] wo b → b ≠ w.heap.size ∧ b ≠ w.heap.size + 1 from fun b hb => hb.elim (fun h => by have := HSS.out b h; omega) fun h => by have := h.1; omega)
          have HTO := Lib.hid (show ∀ b, Sx S (w.heap.size + 2) [] wo b → S b ∨ Fr (w.heap.size + 2) [] wo b from fun b hb => hb)
          clear hul
          cases fl with
          | false =>
            obtain ⟨A2, c2, e2, hrt⟩ := HROW.out.done (k := k) (r := r) (ra := ra) (rc := rc) (ast := ast) (mn := mn) (mx := mx) (z := z) (ix := ix) (nm := nm) HLE.out HRR.out hrl hnm
            obtain ⟨rfl, -, rfl⟩ : A = A2 ∧ us.length = us.length ∧ c = c2 := by injection e2 with h1 h2 h3; exact ⟨h1, rfl, h3⟩
            have HRT := Lib.hid hrt
            have HNF := Lib.hid (HNR.out.set_ 3 (.slice A us.length c))
            have HK1 := Lib.hid ((Kept.setCell (w := wo) ⟨w.heap.size, 3, none⟩ (.slice A us.length c)))
            clear e2 hrt
            have fr3 := HNR.out.node.frozen 3
            have fl3 := HNR.out.node.lt
            have fc3 : wo.cell? ⟨w.heap.size, 3, none⟩ = some (.slice sa l.length sc) := HNR.out.node.cell 3
            have g0 : (wo.setCell ⟨w.heap.size, 3, none⟩ (.slice A us.length c)).cell? ⟨w.heap.size, 0, none⟩ = some (.int .i64 k) := HNF.out.node.cell 0
            have g1 : (wo.setCell ⟨w.heap.size, 3, none⟩ (.slice A us.length c)).cell? ⟨w.heap.size, 1, none⟩ = some (.slice ra r.length rc) := HNF.out.node.cell 1
            have g2 : (wo.setCell ⟨w.heap.size, 3, none⟩ (.slice A us.length c)).cell? ⟨w.heap.size, 2, none⟩ = some (.int .i64 ast) := HNF.out.node.cell 2
            have g3 : (wo.setCell ⟨w.heap.size, 3, none⟩ (.slice A us.length c)).cell? ⟨w.heap.size, 3, none⟩ = some (.slice A us.length c) := HNF.out.node.cell 3
            have g4 : (wo.setCell ⟨w.heap.size, 3, none⟩ (.slice A us.length c)).cell? ⟨w.heap.size, 4, none⟩ = some (.int .i64 mn) := HNF.out.node.cell 4
            have g5 : (wo.setCell ⟨w.heap.size, 3, none⟩ (.slice A us.length c)).cell? ⟨w.heap.size, 5, none⟩ = some (.int .i64 mx) := HNF.out.node.cell 5
            have g6 : (wo.setCell ⟨w.heap.size, 3, none⟩ (.slice A us.length c)).cell? ⟨w.heap.size, 6, none⟩ = some (.bool z) := HNF.out.node.cell 6
            have g7 : (wo.setCell ⟨w.heap.size, 3, none⟩ (.slice A us.length c)).cell? ⟨w.heap.size, 7, none⟩ = some (.int .i64 ix) := HNF.out.node.cell 7
            have g8 : (wo.setCell ⟨w.heap.size, 3, none⟩ (.slice A us.length c)).cell? ⟨w.heap.size, 8, none⟩ = some (.string nm) := HNF.out.node.cell 8
            have q0 := HNF.out.res.cell 0
            have fz0 := HNF.out.res.frozen 0
            have q1 := HNF.out.res.cell 1
            have fz1 := HNF.out.res.frozen 1
            have q2 := HNF.out.res.cell 2
            have fz2 := HNF.out.res.frozen 2
            have q3 := HNF.out.res.cell 3
            have fz3 := HNF.out.res.frozen 3
            have q4 := HNF.out.res.cell 4
            have fz4 := HNF.out.res.frozen 4
            have q5 := HNF.out.res.cell 5
            have fz5 := HNF.out.res.frozen 5
            have q6 := HNF.out.res.cell 6
            have fz6 := HNF.out.res.frozen 6
            have q7 := HNF.out.res.cell 7
            have fz7 := HNF.out.res.frozen 7
            have q8 := HNF.out.res.cell 8
            have fz8 := HNF.out.res.frozen 8
            have fz9 := HNF.out.res.lt
            simp only [List.getElem?_cons_zero, List.getElem?_cons_succ] at q0 q1 q2 q3 q4 q5 q6 q7 q8
            obtain ⟨hres, hK⟩ := HNF.out.res9 (.int .i64 k) (.slice ra r.length rc) (.int .i64 ast) (.slice A us.length c) (.int .i64 mn) (.int .i64 mx) (.bool z) (.int .i64 ix) (.string nm)
            have HRES := Lib.hid hres
            have HK := Lib.hid hK
            clear hres hK
            go_wp2_with fail
            generalize ((((((((((wo.setCell ⟨w.heap.size, 3, none⟩ (.slice A us.length c)).setCell ⟨w.heap.size + 1, 0, none⟩ (.int .i64 k)).setCell ⟨w.heap.size + 1, 1, none⟩ (.slice ra r.length rc)).setCell ⟨w.heap.size + 1, 2, none⟩ (.int .i64 ast)).setCell ⟨w.heap.size + 1, 3, none⟩ (.slice A us.length c)).setCell ⟨w.heap.size + 1, 4, none⟩ (.int .i64 mn)).setCell ⟨w.heap.size + 1, 5, none⟩ (.int .i64 mx)).setCell ⟨w.heap.size + 1, 6, none⟩ (.bool z)).setCell ⟨w.heap.size + 1, 7, none⟩ (.int .i64 ix)).setCell ⟨w.heap.size + 1, 8, none⟩ (.string nm)) = wf at *
            refine bodyPost_ret (results_pair rfl _ _ (w.heap.size + 1) (Ta.mk k r ra rc ast us A c mn mx z ix nm) rfl HRES.out) rfl ?_
            have h1 := HNR.out.res.lt
            have hk2 := HK1.out.trans HK.out
            refine ⟨Ta.mk k r ra rc ast us A c mn mx z ix nm, by have := HM.out; exact congrArg (fun z => Ending.returned (.tuple #[_, Value.int .i64 z])) (by show (mm : Int) = _; omega), by rw [HT.out, Ta.tr]; exact .mk HUT2.out (.inl rfl) (.inl rfl), ?_, Below.kept HNR.out.below hk2 (by intro b hb; simp at hb; omega) HNR.out.below.size⟩
            refine ((HRT.out.go fun b hb => hk2.block b (HLO.out b hb) fun hm => ?_).mono fun b hb => ?_)
            · have := HFAR.out b hb; simp only [List.cons_append, List.nil_append, List.append_assoc, List.mem_cons, List.not_mem_nil, or_false] at hm; omega
            · exact (HTO.out b hb).imp id fun hb => ⟨by have := hb.1; omega, Nat.lt_of_lt_of_le hb.2.1 hk2.size, by simp⟩
          | true =>
            by_cases h5 : k = 5
            · subst h5
              have hel : us.length ≤ 1048576 := HLE.out
              have hwl : IntKind.i64.wrap ((us.length : Int) - 1) = (us.length : Int) - 1 := by rw [IntKind.wrap_i64]; omega
              go_wp2_with fail
              go_loopw [13, 14] (fun ov jv wq => ∃ (j : Nat) (os : List Ta), j ≤ us.length ∧ jv = .int .i64 ((us.length : Int) - 1 - (j : Int)) ∧ os = us.reverse.take j ∧ RowN (Sx S (w.heap.size + 2) [] wo) wo.heap.size ov os wq ∧ Below wo.heap.size wo wq) (fun _ jv _ => (intOf jv + 1).toNat)
              case atStart => exact ⟨0, [], Nat.zero_le _, by simp, by simp, RowN.nil _ _ _, Below.refl _ _⟩
              case round =>
                obtain ⟨j, os, hj, rfl, hos, hro, hbq⟩ := hrel
                obtain ⟨Aq, cq, rfl⟩ := own_shape hro.own
                have hol : os.length = j := by rw [hos, List.length_take, List.length_reverse]; omega
                have HRO := Lib.hid hro
                have HBQ := Lib.hid hbq
                have HOS := Lib.hid hos
                have HOL := Lib.hid hol
                clear hro hbq hos
                by_cases hjl : j < us.length
                · have hge : (0 : Int) ≤ (us.length : Int) - 1 - (j : Int) := by omega
                  obtain ⟨p, hp⟩ : ∃ p : Nat, (us.length : Int) - 1 - (j : Int) = (p : Int) := ⟨us.length - 1 - j, by omega⟩
                  have hpl : p < us.length := by omega
                  have hpl2 : (p : Int) < (us.length : Int) := by omega
                  obtain ⟨u, hu⟩ : ∃ u, us[p]? = some u := ⟨_, List.getElem?_eq_getElem hpl⟩
                  have hum : u ∈ us := List.mem_of_getElem? hu
                  have HNX := Lib.hid (show us.reverse.take (j + 1) = os ++ [u] from by
                    rw [List.take_add_one, ← HOS.out, List.getElem?_reverse (by omega), show us.length - 1 - j = p from by omega, hu]; rfl)
                  obtain ⟨g, rfl, -, hgb, hgl⟩ := own_form HROW.out.own (by omega)
                  have hcell : ∀ y, y < 9 → wr.cell? ⟨g, p * 9 + y, none⟩ = u.vals[y]? := fun y hy => by
                    have h1 : ∃ v, u.vals[y]? = some v := ⟨_, List.getElem?_eq_getElem (by rw [Ta.vals_length]; exact hy)⟩
                    obtain ⟨v, hv⟩ := h1
                    rw [hv]
                    refine (HBQ.out.cell (p := ⟨g, p * 9 + y, none⟩) hgl).trans ?_
                    obtain ⟨gg, cc, zs, e1, hblk, -, -, -⟩ := Blk.of_own HROW.out.own (by omega)
                    simp only [Value.slice.injEq, Option.some.injEq, Addr.mk.injEq, and_true] at e1
                    obtain ⟨rfl, -⟩ := e1
                    rw [hblk.cell, List.getElem?_append_left (by rw [rowT_length]; omega), rowT_get us p y u hu hy, hv]
                  have HUR := Lib.hid (HROW.out.els u hum)
                  have hwm : IntKind.i64.wrap ((p : Int) - 1) = (us.length : Int) - 1 - ((j + 1 : Nat) : Int) := by rw [IntKind.wrap_i64]; omega
                  rw [hp]
                  cases u with
                  | mk k2 r2 ra2 rc2 a2 l2 sa2 sc2 n2 m2 z2 i2 s2 =>
                  simp only [Ta.vals] at hcell
                  have c0 := hcell 0 (by omega)
                  have c1' := hcell 1 (by omega)
                  have c2' := hcell 2 (by omega)
                  have c3 := hcell 3 (by omega)
                  have c4 := hcell 4 (by omega)
                  have c5 := hcell 5 (by omega)
                  have c6 := hcell 6 (by omega)
                  have c7 := hcell 7 (by omega)
                  have c8 := hcell 8 (by omega)
                  simp only [List.getElem?_cons_zero, List.getElem?_cons_succ, Nat.add_zero] at c0 c1' c2' c3 c4 c5 c6 c7 c8
                  have hS2q : ∀ b, (Sx S (w.heap.size + 2) [] wo) b → b < wo.heap.size := HLO.out
                  have hbq := HBQ.out.size
                  have hba : Below wr.heap.size wr (wr.alloc (.cells #[.int .i64 k2, .slice ra2 r2.length rc2, .int .i64 a2, .slice sa2 l2.length sc2, .int .i64 n2, .int .i64 m2, .bool z2, .int .i64 i2, .string s2] 28)) := (Below.refl _ _).alloc (Nat.le_refl _) _
                  have hbw : Below wo.heap.size wo (wr.alloc (.cells #[.int .i64 k2, .slice ra2 r2.length rc2, .int .i64 a2, .slice sa2 l2.length sc2, .int .i64 n2, .int .i64 m2, .bool z2, .int .i64 i2, .string s2] 28)) := HBQ.out.trans (hba.mono hbq)
                  have HRO2 := Lib.hid (HRO.out.below hS2q hbq hba)
                  have HBW := Lib.hid hbw
                  have HUA := Lib.hid (show RT (wr.alloc (.cells #[.int .i64 k2, .slice ra2 r2.length rc2, .int .i64 a2, .slice sa2 l2.length sc2, .int .i64 n2, .int .i64 m2, .bool z2, .int .i64 i2, .string s2] 28)) (Sx (Sx S (w.heap.size + 2) [] wo) wo.heap.size (Value.slice Aq os.length cq).ownBlock.toList (wr.alloc (.cells #[.int .i64 k2, .slice ra2 r2.length rc2, .int .i64 a2, .slice sa2 l2.length sc2, .int .i64 n2, .int .i64 m2, .bool z2, .int .i64 i2, .string s2] 28))) (Ta.mk k2 r2 ra2 rc2 a2 l2 sa2 sc2 n2 m2 z2 i2 s2) from ((HUR.out.sx_less (L' := []) (by simp)).go fun b hb => hbw.block b (hS2q b hb)).mono fun b hb => .inl hb)
                  have HNEW := Lib.hid (Reads.of_own (own_lit wr wr.heap.size 28 9 1 #[.int .i64 k2, .slice ra2 r2.length rc2, .int .i64 a2, .slice sa2 l2.length sc2, .int .i64 n2, .int .i64 m2, .bool z2, .int .i64 i2, .string s2] (Ta.mk k2 r2 ra2 rc2 a2 l2 sa2 sc2 n2 m2 z2 i2 s2).vals (Nat.le_refl _) rfl (by rw [Ta.vals_length]) (by decide)))
                  have hszq : wo.heap.size ≤ (wr.alloc (.cells #[.int .i64 k2, .slice ra2 r2.length rc2, .int .i64 a2, .slice sa2 l2.length sc2, .int .i64 n2, .int .i64 m2, .bool z2, .int .i64 i2, .string s2] 28)).heap.size := by simp; omega
                  have hn1 : os.length + 1 ≤ 1048576 := by omega
                  have HWM := Lib.hid hwm
                  have hpp : (0 : Int) ≤ (p : Int) := by omega
                  have HPP := Lib.hid hp
                  clear hba hbw hS2q hbq hcell hu hum hwm hp hge
                  clear hol
                  go_wp2_with (at_builtin; refine wpList_append_reads rfl (.tmp 65) (.tmp 70) 26 rfl wo.heap.size 28 i0 (.agg #[.int .i64 0, .slice none 0 0, .int .i64 0, .slice none 0 0, .int .i64 0, .int .i64 0, .bool false, .int .i64 0, .string ⟨#[]⟩]) 9 112 Try.underlying26 hinf hz0 hz1 hz2 rfl (by decide) (.slice Aq os.length cq) os.length (rowT os) rfl HRO2.out.own (some ⟨wr.heap.size, 0, none⟩) _ 1 1 (Ta.mk k2 r2 ra2 rc2 a2 l2 sa2 sc2 n2 m2 z2 i2 s2).vals rfl (fun h => by cases h) HNEW.out (Ta.mk k2 r2 ra2 rc2 a2 l2 sa2 sc2 n2 m2 z2 i2 s2).one (by unfold maxLen; omega) (by omega) hszq ?_; intro v3 w3 ha3; have HA3 := Lib.hid ha3; clear ha3)
                  go_roundw
                  case rel =>
                    have hwm := HWM.out
                    have hpu := HRO2.out.put HLO.out hszq HUA.out HA3.out
                    refine ⟨j + 1, os ++ [Ta.mk k2 r2 ra2 rc2 a2 l2 sa2 sc2 n2 m2 z2 i2 s2], by omega, congrArg (Value.int .i64) (by first | exact hwm | (have := HPP.out; go_num) | (have := HPP.out; simp; omega)), HNX.out.symm, hpu, Below.kept HBW.out (Kept.of_grown' HA3.out.grown) (fun b hb => (HRO2.out.own.lt b (by simpa using hb)).1) hszq⟩
                  case measure => have := HPP.out; simp [intOf]
                · obtain rfl : j = us.length := by omega
                  rw [show (us.length : Int) - 1 - (us.length : Int) = -1 from by omega]
                  have HTRO := Lib.hid (show trs os = (trs us).reverse from by rw [HOS.out, show us.reverse.take us.length = us.reverse from by rw [List.take_of_length_le (by simp)], trs_map, trs_map, List.map_reverse])
                  have HNQ := Lib.hid (HNR.out.bel HBQ.out)
                  have HLOo := HLO
                  have HFARo := HFAR
                  have hbq := HBQ.out.size
                  have hbo := HNR.out.res.lt
                  have HRR := Lib.hid (show RdA wr (Sx (Sx S (w.heap.size + 2) [] wo) wo.heap.size [] wr) 2 ra r.length rc (flat r) from (HRR.out.go fun b hb => HBQ.out.block b (HLOo.out b hb)).mono fun b hb => .inl hb)
                  have HLE := Lib.hid (show os.length ≤ 1048576 from by omega)
                  have HLO := Lib.hid (show ∀ b, Sx (Sx S (w.heap.size + 2) [] wo) wo.heap.size [] wr b → b < wr.heap.size from fun b hb => hb.elim (fun h => Nat.lt_of_lt_of_le (HLOo.out b h) hbq) fun h => h.2.1)
                  have HFAR := Lib.hid (show ∀ b, Sx (Sx S (w.heap.size + 2) [] wo) wo.heap.size [] wr b → b ≠ w.heap.size ∧ b ≠ w.heap.size + 1 from fun b hb => hb.elim (fun h => HFARo.out b h) fun h => by have := h.1; omega)
                  have HTO := Lib.hid (show ∀ b, Sx (Sx S (w.heap.size + 2) [] wo) wo.heap.size [] wr b → S b ∨ Fr (w.heap.size + 2) [] wr b from fun b hb => hb.elim (fun h => h.imp id fun h => ⟨h.1, Nat.lt_of_lt_of_le h.2.1 hbq, by simp⟩) fun h => .inr ⟨by have := h.1; omega, h.2.1, by simp⟩)
                  have r0q : wr.cell? ⟨w.heap.size, 0, none⟩ = some (.int .i64 5) := HNQ.out.node.cell 0
                  clear hol hbq hbo
                  obtain ⟨A2, c2, e2, hrt⟩ := HRO.out.done (k := 5) (r := r) (ra := ra) (rc := rc) (ast := ast) (mn := mn) (mx := mx) (z := z) (ix := ix) (nm := nm) HLE.out HRR.out hrl hnm
                  obtain ⟨rfl, -, rfl⟩ : Aq = A2 ∧ os.length = os.length ∧ cq = c2 := by injection e2 with h1 h2 h3; exact ⟨h1, rfl, h3⟩
                  have HRT := Lib.hid hrt
                  have HNF := Lib.hid (HNQ.out.set_ 3 (.slice Aq os.length cq))
                  have HK1 := Lib.hid ((Kept.setCell (w := wr) ⟨w.heap.size, 3, none⟩ (.slice Aq os.length cq)))
                  clear e2 hrt
                  have fr3 := HNQ.out.node.frozen 3
                  have fl3 := HNQ.out.node.lt
                  have fc3 : wr.cell? ⟨w.heap.size, 3, none⟩ = some (.slice sa l.length sc) := HNQ.out.node.cell 3
                  have g0 : (wr.setCell ⟨w.heap.size, 3, none⟩ (.slice Aq os.length cq)).cell? ⟨w.heap.size, 0, none⟩ = some (.int .i64 5) := HNF.out.node.cell 0
                  have g1 : (wr.setCell ⟨w.heap.size, 3, none⟩ (.slice Aq os.length cq)).cell? ⟨w.heap.size, 1, none⟩ = some (.slice ra r.length rc) := HNF.out.node.cell 1
                  have g2 : (wr.setCell ⟨w.heap.size, 3, none⟩ (.slice Aq os.length cq)).cell? ⟨w.heap.size, 2, none⟩ = some (.int .i64 ast) := HNF.out.node.cell 2
                  have g3 : (wr.setCell ⟨w.heap.size, 3, none⟩ (.slice Aq os.length cq)).cell? ⟨w.heap.size, 3, none⟩ = some (.slice Aq os.length cq) := HNF.out.node.cell 3
                  have g4 : (wr.setCell ⟨w.heap.size, 3, none⟩ (.slice Aq os.length cq)).cell? ⟨w.heap.size, 4, none⟩ = some (.int .i64 mn) := HNF.out.node.cell 4
                  have g5 : (wr.setCell ⟨w.heap.size, 3, none⟩ (.slice Aq os.length cq)).cell? ⟨w.heap.size, 5, none⟩ = some (.int .i64 mx) := HNF.out.node.cell 5
                  have g6 : (wr.setCell ⟨w.heap.size, 3, none⟩ (.slice Aq os.length cq)).cell? ⟨w.heap.size, 6, none⟩ = some (.bool z) := HNF.out.node.cell 6
                  have g7 : (wr.setCell ⟨w.heap.size, 3, none⟩ (.slice Aq os.length cq)).cell? ⟨w.heap.size, 7, none⟩ = some (.int .i64 ix) := HNF.out.node.cell 7
                  have g8 : (wr.setCell ⟨w.heap.size, 3, none⟩ (.slice Aq os.length cq)).cell? ⟨w.heap.size, 8, none⟩ = some (.string nm) := HNF.out.node.cell 8
                  have q0 := HNF.out.res.cell 0
                  have fz0 := HNF.out.res.frozen 0
                  have q1 := HNF.out.res.cell 1
                  have fz1 := HNF.out.res.frozen 1
                  have q2 := HNF.out.res.cell 2
                  have fz2 := HNF.out.res.frozen 2
                  have q3 := HNF.out.res.cell 3
                  have fz3 := HNF.out.res.frozen 3
                  have q4 := HNF.out.res.cell 4
                  have fz4 := HNF.out.res.frozen 4
                  have q5 := HNF.out.res.cell 5
                  have fz5 := HNF.out.res.frozen 5
                  have q6 := HNF.out.res.cell 6
                  have fz6 := HNF.out.res.frozen 6
                  have q7 := HNF.out.res.cell 7
                  have fz7 := HNF.out.res.frozen 7
                  have q8 := HNF.out.res.cell 8
                  have fz8 := HNF.out.res.frozen 8
                  have fz9 := HNF.out.res.lt
                  simp only [List.getElem?_cons_zero, List.getElem?_cons_succ] at q0 q1 q2 q3 q4 q5 q6 q7 q8
                  obtain ⟨hres, hK⟩ := HNF.out.res9 (.int .i64 5) (.slice ra r.length rc) (.int .i64 ast) (.slice Aq os.length cq) (.int .i64 mn) (.int .i64 mx) (.bool z) (.int .i64 ix) (.string nm)
                  have HRES := Lib.hid hres
                  have HK := Lib.hid hK
                  clear hres hK
                  go_wp2_with fail
                  generalize ((((((((((wr.setCell ⟨w.heap.size, 3, none⟩ (.slice Aq os.length cq)).setCell ⟨w.heap.size + 1, 0, none⟩ (.int .i64 5)).setCell ⟨w.heap.size + 1, 1, none⟩ (.slice ra r.length rc)).setCell ⟨w.heap.size + 1, 2, none⟩ (.int .i64 ast)).setCell ⟨w.heap.size + 1, 3, none⟩ (.slice Aq os.length cq)).setCell ⟨w.heap.size + 1, 4, none⟩ (.int .i64 mn)).setCell ⟨w.heap.size + 1, 5, none⟩ (.int .i64 mx)).setCell ⟨w.heap.size + 1, 6, none⟩ (.bool z)).setCell ⟨w.heap.size + 1, 7, none⟩ (.int .i64 ix)).setCell ⟨w.heap.size + 1, 8, none⟩ (.string nm)) = wf at *
                  refine bodyPost_ret (results_pair rfl _ _ (w.heap.size + 1) (Ta.mk 5 r ra rc ast os Aq cq mn mx z ix nm) rfl HRES.out) rfl ?_
                  have h1 := HNQ.out.res.lt
                  have hk2 := HK1.out.trans HK.out
                  refine ⟨Ta.mk 5 r ra rc ast os Aq cq mn mx z ix nm, by have := HM.out; exact congrArg (fun z => Ending.returned (.tuple #[_, Value.int .i64 z])) (by show (mm : Int) = _; omega), by rw [HT.out, Ta.tr]; exact .mk HUT2.out (.inr ⟨rfl, HTRO.out⟩) (.inl rfl), ?_, Below.kept HNQ.out.below hk2 (by intro b hb; simp at hb; omega) HNQ.out.below.size⟩
                  refine ((HRT.out.go fun b hb => hk2.block b (HLO.out b hb) fun hm => ?_).mono fun b hb => ?_)
                  · have := HFAR.out b hb; simp only [List.cons_append, List.nil_append, List.append_assoc, List.mem_cons, List.not_mem_nil, or_false] at hm; omega
                  · exact (HTO.out b hb).imp id fun hb => ⟨by have := hb.1; omega, Nat.lt_of_lt_of_le hb.2.1 hk2.size, by simp⟩
            by_cases h6 : k = 6
            · subst h6
              obtain ⟨A2, c2, e2, hrt⟩ := HROW.out.done (k := 6) (r := r) (ra := ra) (rc := rc) (ast := ast) (mn := mn) (mx := mx) (z := (!z)) (ix := ix) (nm := nm) HLE.out HRR.out hrl hnm
              obtain ⟨rfl, -, rfl⟩ : A = A2 ∧ us.length = us.length ∧ c = c2 := by injection e2 with h1 h2 h3; exact ⟨h1, rfl, h3⟩
              have HRT := Lib.hid hrt
              have HNF := Lib.hid ((HNR.out.set_ 6 (.bool (!z))).set_ 3 (.slice A us.length c))
              have HK1 := Lib.hid ((Kept.setCell (w := wo) ⟨w.heap.size, 6, none⟩ (.bool (!z))).trans (Kept.setCell ⟨w.heap.size, 3, none⟩ (.slice A us.length c)))
              clear e2 hrt
              have fr6 := HNR.out.node.frozen 6
              have fr3 := (HNR.out.set_ 6 (.bool (!z))).node.frozen 3
              have fl3 := (HNR.out.set_ 6 (.bool (!z))).node.lt
              have fl6 := HNR.out.node.lt
              have fc3 : (wo.setCell ⟨w.heap.size, 6, none⟩ (.bool (!z))).cell? ⟨w.heap.size, 3, none⟩ = some (.slice sa l.length sc) := (HNR.out.set_ 6 (.bool (!z))).node.cell 3
              have fc6 : wo.cell? ⟨w.heap.size, 6, none⟩ = some (.bool z) := HNR.out.node.cell 6
              have g0 : ((wo.setCell ⟨w.heap.size, 6, none⟩ (.bool (!z))).setCell ⟨w.heap.size, 3, none⟩ (.slice A us.length c)).cell? ⟨w.heap.size, 0, none⟩ = some (.int .i64 6) := HNF.out.node.cell 0
              have g1 : ((wo.setCell ⟨w.heap.size, 6, none⟩ (.bool (!z))).setCell ⟨w.heap.size, 3, none⟩ (.slice A us.length c)).cell? ⟨w.heap.size, 1, none⟩ = some (.slice ra r.length rc) := HNF.out.node.cell 1
              have g2 : ((wo.setCell ⟨w.heap.size, 6, none⟩ (.bool (!z))).setCell ⟨w.heap.size, 3, none⟩ (.slice A us.length c)).cell? ⟨w.heap.size, 2, none⟩ = some (.int .i64 ast) := HNF.out.node.cell 2
              have g3 : ((wo.setCell ⟨w.heap.size, 6, none⟩ (.bool (!z))).setCell ⟨w.heap.size, 3, none⟩ (.slice A us.length c)).cell? ⟨w.heap.size, 3, none⟩ = some (.slice A us.length c) := HNF.out.node.cell 3
              have g4 : ((wo.setCell ⟨w.heap.size, 6, none⟩ (.bool (!z))).setCell ⟨w.heap.size, 3, none⟩ (.slice A us.length c)).cell? ⟨w.heap.size, 4, none⟩ = some (.int .i64 mn) := HNF.out.node.cell 4
              have g5 : ((wo.setCell ⟨w.heap.size, 6, none⟩ (.bool (!z))).setCell ⟨w.heap.size, 3, none⟩ (.slice A us.length c)).cell? ⟨w.heap.size, 5, none⟩ = some (.int .i64 mx) := HNF.out.node.cell 5
              have g6 : ((wo.setCell ⟨w.heap.size, 6, none⟩ (.bool (!z))).setCell ⟨w.heap.size, 3, none⟩ (.slice A us.length c)).cell? ⟨w.heap.size, 6, none⟩ = some (.bool (!z)) := HNF.out.node.cell 6
              have g7 : ((wo.setCell ⟨w.heap.size, 6, none⟩ (.bool (!z))).setCell ⟨w.heap.size, 3, none⟩ (.slice A us.length c)).cell? ⟨w.heap.size, 7, none⟩ = some (.int .i64 ix) := HNF.out.node.cell 7
              have g8 : ((wo.setCell ⟨w.heap.size, 6, none⟩ (.bool (!z))).setCell ⟨w.heap.size, 3, none⟩ (.slice A us.length c)).cell? ⟨w.heap.size, 8, none⟩ = some (.string nm) := HNF.out.node.cell 8
              have q0 := HNF.out.res.cell 0
              have fz0 := HNF.out.res.frozen 0
              have q1 := HNF.out.res.cell 1
              have fz1 := HNF.out.res.frozen 1
              have q2 := HNF.out.res.cell 2
              have fz2 := HNF.out.res.frozen 2
              have q3 := HNF.out.res.cell 3
              have fz3 := HNF.out.res.frozen 3
              have q4 := HNF.out.res.cell 4
              have fz4 := HNF.out.res.frozen 4
              have q5 := HNF.out.res.cell 5
              have fz5 := HNF.out.res.frozen 5
              have q6 := HNF.out.res.cell 6
              have fz6 := HNF.out.res.frozen 6
              have q7 := HNF.out.res.cell 7
              have fz7 := HNF.out.res.frozen 7
              have q8 := HNF.out.res.cell 8
              have fz8 := HNF.out.res.frozen 8
              have fz9 := HNF.out.res.lt
              simp only [List.getElem?_cons_zero, List.getElem?_cons_succ] at q0 q1 q2 q3 q4 q5 q6 q7 q8
              obtain ⟨hres, hK⟩ := HNF.out.res9 (.int .i64 6) (.slice ra r.length rc) (.int .i64 ast) (.slice A us.length c) (.int .i64 mn) (.int .i64 mx) (.bool (!z)) (.int .i64 ix) (.string nm)
              have HRES := Lib.hid hres
              have HK := Lib.hid hK
              clear hres hK
              go_wp2_with fail
              generalize (((((((((((wo.setCell ⟨w.heap.size, 6, none⟩ (.bool (!z))).setCell ⟨w.heap.size, 3, none⟩ (.slice A us.length c)).setCell ⟨w.heap.size + 1, 0, none⟩ (.int .i64 6)).setCell ⟨w.heap.size + 1, 1, none⟩ (.slice ra r.length rc)).setCell ⟨w.heap.size + 1, 2, none⟩ (.int .i64 ast)).setCell ⟨w.heap.size + 1, 3, none⟩ (.slice A us.length c)).setCell ⟨w.heap.size + 1, 4, none⟩ (.int .i64 mn)).setCell ⟨w.heap.size + 1, 5, none⟩ (.int .i64 mx)).setCell ⟨w.heap.size + 1, 6, none⟩ (.bool (!z))).setCell ⟨w.heap.size + 1, 7, none⟩ (.int .i64 ix)).setCell ⟨w.heap.size + 1, 8, none⟩ (.string nm)) = wf at *
              refine bodyPost_ret (results_pair rfl _ _ (w.heap.size + 1) (Ta.mk 6 r ra rc ast us A c mn mx (!z) ix nm) rfl HRES.out) rfl ?_
              have h1 := HNR.out.res.lt
              have hk2 := HK1.out.trans HK.out
              refine ⟨Ta.mk 6 r ra rc ast us A c mn mx (!z) ix nm, by have := HM.out; exact congrArg (fun z => Ending.returned (.tuple #[_, Value.int .i64 z])) (by show (mm : Int) = _; omega), by rw [HT.out, Ta.tr]; exact .mk HUT2.out (.inl rfl) (.inr rfl), ?_, Below.kept HNR.out.below hk2 (by intro b hb; simp at hb; omega) HNR.out.below.size⟩
              refine ((HRT.out.go fun b hb => hk2.block b (HLO.out b hb) fun hm => ?_).mono fun b hb => ?_)
              · have := HFAR.out b hb; simp only [List.cons_append, List.nil_append, List.append_assoc, List.mem_cons, List.not_mem_nil, or_false] at hm; omega
              · exact (HTO.out b hb).imp id fun hb => ⟨by have := hb.1; omega, Nat.lt_of_lt_of_le hb.2.1 hk2.size, by simp⟩
            · have h5b : (k == 5) = false := beq_eq_false_iff_ne.2 h5
              have h6b : (k == 6) = false := beq_eq_false_iff_ne.2 h6
              obtain ⟨A2, c2, e2, hrt⟩ := HROW.out.done (k := k) (r := r) (ra := ra) (rc := rc) (ast := ast) (mn := mn) (mx := mx) (z := z) (ix := ix) (nm := nm) HLE.out HRR.out hrl hnm
              obtain ⟨rfl, -, rfl⟩ : A = A2 ∧ us.length = us.length ∧ c = c2 := by injection e2 with h1 h2 h3; exact ⟨h1, rfl, h3⟩
              have HRT := Lib.hid hrt
              have HNF := Lib.hid (HNR.out.set_ 3 (.slice A us.length c))
              have HK1 := Lib.hid ((Kept.setCell (w := wo) ⟨w.heap.size, 3, none⟩ (.slice A us.length c)))
              clear e2 hrt
              have fr3 := HNR.out.node.frozen 3
              have fl3 := HNR.out.node.lt
              have fc3 : wo.cell? ⟨w.heap.size, 3, none⟩ = some (.slice sa l.length sc) := HNR.out.node.cell 3
              have g0 : (wo.setCell ⟨w.heap.size, 3, none⟩ (.slice A us.length c)).cell? ⟨w.heap.size, 0, none⟩ = some (.int .i64 k) := HNF.out.node.cell 0
              have g1 : (wo.setCell ⟨w.heap.size, 3, none⟩ (.slice A us.length c)).cell? ⟨w.heap.size, 1, none⟩ = some (.slice ra r.length rc) := HNF.out.node.cell 1
              have g2 : (wo.setCell ⟨w.heap.size, 3, none⟩ (.slice A us.length c)).cell? ⟨w.heap.size, 2, none⟩ = some (.int .i64 ast) := HNF.out.node.cell 2
              have g3 : (wo.setCell ⟨w.heap.size, 3, none⟩ (.slice A us.length c)).cell? ⟨w.heap.size, 3, none⟩ = some (.slice A us.length c) := HNF.out.node.cell 3
              have g4 : (wo.setCell ⟨w.heap.size, 3, none⟩ (.slice A us.length c)).cell? ⟨w.heap.size, 4, none⟩ = some (.int .i64 mn) := HNF.out.node.cell 4
              have g5 : (wo.setCell ⟨w.heap.size, 3, none⟩ (.slice A us.length c)).cell? ⟨w.heap.size, 5, none⟩ = some (.int .i64 mx) := HNF.out.node.cell 5
              have g6 : (wo.setCell ⟨w.heap.size, 3, none⟩ (.slice A us.length c)).cell? ⟨w.heap.size, 6, none⟩ = some (.bool z) := HNF.out.node.cell 6
              have g7 : (wo.setCell ⟨w.heap.size, 3, none⟩ (.slice A us.length c)).cell? ⟨w.heap.size, 7, none⟩ = some (.int .i64 ix) := HNF.out.node.cell 7
              have g8 : (wo.setCell ⟨w.heap.size, 3, none⟩ (.slice A us.length c)).cell? ⟨w.heap.size, 8, none⟩ = some (.string nm) := HNF.out.node.cell 8
              have q0 := HNF.out.res.cell 0
              have fz0 := HNF.out.res.frozen 0
              have q1 := HNF.out.res.cell 1
              have fz1 := HNF.out.res.frozen 1
              have q2 := HNF.out.res.cell 2
              have fz2 := HNF.out.res.frozen 2
              have q3 := HNF.out.res.cell 3
              have fz3 := HNF.out.res.frozen 3
              have q4 := HNF.out.res.cell 4
              have fz4 := HNF.out.res.frozen 4
              have q5 := HNF.out.res.cell 5
              have fz5 := HNF.out.res.frozen 5
              have q6 := HNF.out.res.cell 6
              have fz6 := HNF.out.res.frozen 6
              have q7 := HNF.out.res.cell 7
              have fz7 := HNF.out.res.frozen 7
              have q8 := HNF.out.res.cell 8
              have fz8 := HNF.out.res.frozen 8
              have fz9 := HNF.out.res.lt
              simp only [List.getElem?_cons_zero, List.getElem?_cons_succ] at q0 q1 q2 q3 q4 q5 q6 q7 q8
              obtain ⟨hres, hK⟩ := HNF.out.res9 (.int .i64 k) (.slice ra r.length rc) (.int .i64 ast) (.slice A us.length c) (.int .i64 mn) (.int .i64 mx) (.bool z) (.int .i64 ix) (.string nm)
              have HRES := Lib.hid hres
              have HK := Lib.hid hK
              clear hres hK
              go_wp2_with fail
              generalize ((((((((((wo.setCell ⟨w.heap.size, 3, none⟩ (.slice A us.length c)).setCell ⟨w.heap.size + 1, 0, none⟩ (.int .i64 k)).setCell ⟨w.heap.size + 1, 1, none⟩ (.slice ra r.length rc)).setCell ⟨w.heap.size + 1, 2, none⟩ (.int .i64 ast)).setCell ⟨w.heap.size + 1, 3, none⟩ (.slice A us.length c)).setCell ⟨w.heap.size + 1, 4, none⟩ (.int .i64 mn)).setCell ⟨w.heap.size + 1, 5, none⟩ (.int .i64 mx)).setCell ⟨w.heap.size + 1, 6, none⟩ (.bool z)).setCell ⟨w.heap.size + 1, 7, none⟩ (.int .i64 ix)).setCell ⟨w.heap.size + 1, 8, none⟩ (.string nm)) = wf at *
              refine bodyPost_ret (results_pair rfl _ _ (w.heap.size + 1) (Ta.mk k r ra rc ast us A c mn mx z ix nm) rfl HRES.out) rfl ?_
              have h1 := HNR.out.res.lt
              have hk2 := HK1.out.trans HK.out
              refine ⟨Ta.mk k r ra rc ast us A c mn mx z ix nm, by have := HM.out; exact congrArg (fun z => Ending.returned (.tuple #[_, Value.int .i64 z])) (by show (mm : Int) = _; omega), by rw [HT.out, Ta.tr]; exact .mk HUT2.out (.inl rfl) (.inl rfl), ?_, Below.kept HNR.out.below hk2 (by intro b hb; simp at hb; omega) HNR.out.below.size⟩
              refine ((HRT.out.go fun b hb => hk2.block b (HLO.out b hb) fun hm => ?_).mono fun b hb => ?_)
              · have := HFAR.out b hb; simp only [List.cons_append, List.nil_append, List.append_assoc, List.mem_cons, List.not_mem_nil, or_false] at hm; omega
              · exact (HTO.out b hb).imp id fun hb => ⟨by have := hb.1; omega, Nat.lt_of_lt_of_le hb.2.1 hk2.size, by simp⟩
    · have hf2 : ¬ (n : Int) < (rn : Int) := by omega
      go_wp2_with fail
      generalize ((w.alloc (.cells #[.int .i64 k, .slice ra r.length rc, .int .i64 ast, .slice sa l.length sc, .int .i64 mn, .int .i64 mx, .bool z, .int .i64 ix, .string nm] 28)).alloc (.cells #[.int .i64 0, .slice none 0 0, .int .i64 0, .slice none 0 0, .int .i64 0, .int .i64 0, .bool false, .int .i64 0, .string ⟨#[]⟩] 28)) = w1 at *
      go_loopw [2, 9, 10] (fun nv sv iv wr => ∃ (i m : Nat) (us : List Ta), i ≤ l.length ∧ iv = .int .i64 (i : Int) ∧ nv = .int .i64 (m : Int) ∧ m = n + 1 + sizes (trs (l.take i)) ∧ us.length = i ∧ TurnRs (trs (l.take i)) (trs us) ∧ RowN S (w.heap.size + 2) sv us wr ∧ NS w [.int .i64 k, .slice ra r.length rc, .int .i64 ast, .slice sa l.length sc, .int .i64 mn, .int .i64 mx, .bool z, .int .i64 ix, .string nm] wr) (fun _ _ iv _ => l.length - (intOf iv).toNat)
      case atStart => exact ⟨0, n + 1, [], Nat.zero_le _, rfl, by simp, by simp [trs, sizes], rfl, .nil, RowN.nil _ _ _, HNS.out⟩
      case round =>
        obtain ⟨i, mm, us, hi, rfl, rfl, hm, hul, hut, hrow, hns⟩ := hrel
        have HNR := Lib.hid hns
        have HM0 := Lib.hid hm
        have r3 : wr.cell? ⟨w.heap.size, 3, none⟩ = some (.slice sa l.length sc) := hns.node.cell 3
        obtain ⟨A, c, rfl⟩ := own_shape hrow.own
        have HROW := Lib.hid hrow
        have HUT := Lib.hid hut
        have hle : sizes (trs (l.take i)) ≤ q := HQ.out ▸ sizes_take_le l i
        have hmb : mm ≤ 1099511627776 := by omega
        clear hns hrow hut hm hle
        by_cases hlt : i < l.length
        · have hlt2 : (i : Int) < (l.length : Int) := by omega
          obtain ⟨b0, off0, rfl, hSb0, _⟩ := HN.out.2.2.2.2 (by omega)
          obtain ⟨u, hu⟩ : ∃ u, l[i]? = some u := ⟨_, List.getElem?_eq_getElem hlt⟩
          have hum : u ∈ l := List.mem_of_getElem? hu
          have hbb := HSS.out b0 hSb0
          have hcell : ∀ j, j < 9 → wr.cell? ⟨b0, off0 + i * 9 + j, none⟩ = u.vals[j]? := fun j hj => by
            rw [Nat.add_assoc, ← HN.out.node hu hj]
            exact HNR.out.below.cell (p := ⟨b0, off0 + (i * 9 + j), none⟩) hbb
          have hstep : sizes (trs (l.take (i + 1))) = sizes (trs (l.take i)) + size u.tr := sizes_take hu
          have hle2 : sizes (trs (l.take (i + 1))) ≤ q := HQ.out ▸ sizes_take_le l (i + 1)
          have hin := HIH.out u hum S wr R rn rcp raw mm ((HL.out u hum).below HSS.out HNR.out.below) (fun b hb => Nat.lt_of_lt_of_le (HSS.out b hb) HNR.out.below.size) (HRAW.out.go fun b hb => HNR.out.below.block b (HSS.out b hb)) (by have := HM0.out; omega)
          have HST := Lib.hid (show mm + size u.tr = n + 1 + sizes (trs (l.take (i + 1))) ∧ mm + size u.tr ≤ 1099511627776 from by have := HM0.out; omega)
          have HTK1 := Lib.hid (show trs (l.take (i + 1)) = trs (l.take i) ++ [u.tr] from by rw [List.take_add_one, hu, trs_map, trs_map, List.map_append]; rfl)
          clear hstep hle2
          generalize size u.tr = zu at *
          cases u with
          | mk k' r' ra' rc' a' l' sa' sc' n' m' z' i' s' =>
          simp only [Ta.vals] at hcell
          simp only [Ta.val, Ta.vals] at hin
          have c0 := hcell 0 (by omega)
          have c1' := hcell 1 (by omega)
          have c2' := hcell 2 (by omega)
          have c3 := hcell 3 (by omega)
          have c4 := hcell 4 (by omega)
          have c5 := hcell 5 (by omega)
          have c6 := hcell 6 (by omega)
          have c7 := hcell 7 (by omega)
          have c8 := hcell 8 (by omega)
          simp only [List.getElem?_cons_zero, List.getElem?_cons_succ, Nat.add_zero] at c0 c1' c2' c3 c4 c5 c6 c7 c8
          have HIN := Lib.hid hin
          clear hin hcell hu hum
          go_wp2_with fail
          refine HIN.out.mono ?_
          rintro e w2 ⟨u, rfl, htr, hrt, hb2⟩
          obtain ⟨k2, r2, ra2, rc2, a2, l2, sa2, sc2, n2, m2, z2, i2, s2⟩ := u
          have hwr := HNR.out.below.size
          have hws := HNR.out.res.lt
          have hS2 : ∀ b, S b → b < (w.heap.size + 2) := fun b hb => by have := HSS.out b hb; omega
          have hba : Below w2.heap.size w2 ((w2.alloc (.cells #[.int .i64 k2, .slice ra2 r2.length rc2, .int .i64 a2, .slice sa2 l2.length sc2, .int .i64 n2, .int .i64 m2, .bool z2, .int .i64 i2, .string s2] 28)).alloc (.cells #[.int .i64 k2, .slice ra2 r2.length rc2, .int .i64 a2, .slice sa2 l2.length sc2, .int .i64 n2, .int .i64 m2, .bool z2, .int .i64 i2, .string s2] 28)) := two_below w2 _ _
          have hbb2 : Below wr.heap.size wr ((w2.alloc (.cells #[.int .i64 k2, .slice ra2 r2.length rc2, .int .i64 a2, .slice sa2 l2.length sc2, .int .i64 n2, .int .i64 m2, .bool z2, .int .i64 i2, .string s2] 28)).alloc (.cells #[.int .i64 k2, .slice ra2 r2.length rc2, .int .i64 a2, .slice sa2 l2.length sc2, .int .i64 n2, .int .i64 m2, .bool z2, .int .i64 i2, .string s2] 28)) := hb2.trans (hba.mono hb2.size)
          have HRA := Lib.hid (HROW.out.below hS2 (by omega) hbb2)
          have HNA := Lib.hid (HNR.out.bel hbb2)
          have hown : ∀ b ∈ (Value.slice A us.length c).ownBlock.toList, b < wr.heap.size := fun b hb => (HROW.out.own.lt b (by simpa using hb)).2
          have hs2 := hb2.size
          have HUA := Lib.hid (((hrt.sx_in (L := (Value.slice A us.length c).ownBlock.toList) (show (w.heap.size + 2) ≤ wr.heap.size from by omega) hown).sx_below hS2 (by omega) hba))
          have HTR := Lib.hid htr
          have hnw : Reads ((w2.alloc (.cells #[.int .i64 k2, .slice ra2 r2.length rc2, .int .i64 a2, .slice sa2 l2.length sc2, .int .i64 n2, .int .i64 m2, .bool z2, .int .i64 i2, .string s2] 28)).alloc (.cells #[.int .i64 k2, .slice ra2 r2.length rc2, .int .i64 a2, .slice sa2 l2.length sc2, .int .i64 n2, .int .i64 m2, .bool z2, .int .i64 i2, .string s2] 28)) ((w2.alloc (.cells #[.int .i64 k2, .slice ra2 r2.length rc2, .int .i64 a2, .slice sa2 l2.length sc2, .int .i64 n2, .int .i64 m2, .bool z2, .int .i64 i2, .string s2] 28)).alloc (.cells #[.int .i64 k2, .slice ra2 r2.length rc2, .int .i64 a2, .slice sa2 l2.length sc2, .int .i64 n2, .int .i64 m2, .bool z2, .int .i64 i2, .string s2] 28)).heap.size 9 (some ⟨w2.heap.size + 1, 0, none⟩) 1 1 (Ta.mk k2 r2 ra2 rc2 a2 l2 sa2 sc2 n2 m2 z2 i2 s2).vals := by
            have := (two_blk w2 (.cells #[.int .i64 k2, .slice ra2 r2.length rc2, .int .i64 a2, .slice sa2 l2.length sc2, .int .i64 n2, .int .i64 m2, .bool z2, .int .i64 i2, .string s2] 28) 28 (Ta.mk k2 r2 ra2 rc2 a2 l2 sa2 sc2 n2 m2 z2 i2 s2).vals).reads (size := 9) (n := 1) (c := 1) (by omega) (by omega) (by rw [Ta.vals_length]; omega)
            rwa [List.take_of_length_le (by rw [Ta.vals_length]; omega)] at this
          have HNEW := Lib.hid hnw
          have HS2 := Lib.hid (Blk.new w2 28 (Ta.mk k2 r2 ra2 rc2 a2 l2 sa2 sc2 n2 m2 z2 i2 s2).vals)
          have d0 : (w2.alloc (.cells #[.int .i64 k2, .slice ra2 r2.length rc2, .int .i64 a2, .slice sa2 l2.length sc2, .int .i64 n2, .int .i64 m2, .bool z2, .int .i64 i2, .string s2] 28)).cell? ⟨w2.heap.size, 0, none⟩ = some (.int .i64 k2) := HS2.out.cell 0
          have d1 : (w2.alloc (.cells #[.int .i64 k2, .slice ra2 r2.length rc2, .int .i64 a2, .slice sa2 l2.length sc2, .int .i64 n2, .int .i64 m2, .bool z2, .int .i64 i2, .string s2] 28)).cell? ⟨w2.heap.size, 1, none⟩ = some (.slice ra2 r2.length rc2) := HS2.out.cell 1
          have d2 : (w2.alloc (.cells #[.int .i64 k2, .slice ra2 r2.length rc2, .int .i64 a2, .slice sa2 l2.length sc2, .int .i64 n2, .int .i64 m2, .bool z2, .int .i64 i2, .string s2] 28)).cell? ⟨w2.heap.size, 2, none⟩ = some (.int .i64 a2) := HS2.out.cell 2
          have d3 : (w2.alloc (.cells #[.int .i64 k2, .slice ra2 r2.length rc2, .int .i64 a2, .slice sa2 l2.length sc2, .int .i64 n2, .int .i64 m2, .bool z2, .int .i64 i2, .string s2] 28)).cell? ⟨w2.heap.size, 3, none⟩ = some (.slice sa2 l2.length sc2) := HS2.out.cell 3
          have d4 : (w2.alloc (.cells #[.int .i64 k2, .slice ra2 r2.length rc2, .int .i64 a2, .slice sa2 l2.length sc2, .int .i64 n2, .int .i64 m2, .bool z2, .int .i64 i2, .string s2] 28)).cell? ⟨w2.heap.size, 4, none⟩ = some (.int .i64 n2) := HS2.out.cell 4
          have d5 : (w2.alloc (.cells #[.int .i64 k2, .slice ra2 r2.length rc2, .int .i64 a2, .slice sa2 l2.length sc2, .int .i64 n2, .int .i64 m2, .bool z2, .int .i64 i2, .string s2] 28)).cell? ⟨w2.heap.size, 5, none⟩ = some (.int .i64 m2) := HS2.out.cell 5
          have d6 : (w2.alloc (.cells #[.int .i64 k2, .slice ra2 r2.length rc2, .int .i64 a2, .slice sa2 l2.length sc2, .int .i64 n2, .int .i64 m2, .bool z2, .int .i64 i2, .string s2] 28)).cell? ⟨w2.heap.size, 6, none⟩ = some (.bool z2) := HS2.out.cell 6
          have d7 : (w2.alloc (.cells #[.int .i64 k2, .slice ra2 r2.length rc2, .int .i64 a2, .slice sa2 l2.length sc2, .int .i64 n2, .int .i64 m2, .bool z2, .int .i64 i2, .string s2] 28)).cell? ⟨w2.heap.size, 7, none⟩ = some (.int .i64 i2) := HS2.out.cell 7
          have d8 : (w2.alloc (.cells #[.int .i64 k2, .slice ra2 r2.length rc2, .int .i64 a2, .slice sa2 l2.length sc2, .int .i64 n2, .int .i64 m2, .bool z2, .int .i64 i2, .string s2] 28)).cell? ⟨w2.heap.size, 8, none⟩ = some (.string s2) := HS2.out.cell 8
          have hsz2 : (w.heap.size + 2) ≤ ((w2.alloc (.cells #[.int .i64 k2, .slice ra2 r2.length rc2, .int .i64 a2, .slice sa2 l2.length sc2, .int .i64 n2, .int .i64 m2, .bool z2, .int .i64 i2, .string s2] 28)).alloc (.cells #[.int .i64 k2, .slice ra2 r2.length rc2, .int .i64 a2, .slice sa2 l2.length sc2, .int .i64 n2, .int .i64 m2, .bool z2, .int .i64 i2, .string s2] 28)).heap.size := by simp; omega
          have hn1 : us.length + 1 ≤ 1048576 := by omega
          clear htr hrt hb2 hba hbb2 hown hS2 c0 c1' c2' c3 c4 c5 c6 c7 c8 hnw
          simp only []
          go_wp2_with (at_builtin; refine wpList_append_reads rfl (.tmp 48) (.tmp 50) 26 rfl (w.heap.size + 2) 28 i0 (.agg #[.int .i64 0, .slice none 0 0, .int .i64 0, .slice none 0 0, .int .i64 0, .int .i64 0, .bool false, .int .i64 0, .string ⟨#[]⟩]) 9 112 Try.underlying26 hinf hz0 hz1 hz2 rfl (by decide) (.slice A us.length c) us.length (rowT us) rfl HRA.out.own (some ⟨w2.heap.size + 1, 0, none⟩) _ 1 1 (Ta.mk k2 r2 ra2 rc2 a2 l2 sa2 sc2 n2 m2 z2 i2 s2).vals rfl (fun h => by cases h) HNEW.out (Ta.mk k2 r2 ra2 rc2 a2 l2 sa2 sc2 n2 m2 z2 i2 s2).one (by unfold maxLen; omega) (by omega) hsz2 ?_; intro v3 w3 ha3; have HA3 := Lib.hid ha3; clear ha3)
          go_roundw
          case rel =>
            have hp := HRA.out.put (fun b hb => by have := HSS.out b hb; omega) hsz2 HUA.out HA3.out
            refine ⟨i + 1, mm + zu, us ++ [(Ta.mk k2 r2 ra2 rc2 a2 l2 sa2 sc2 n2 m2 z2 i2 s2)], by omega, by go_num, by first | rfl | simp, HST.out.1, by simp [hul], ?_, hp, HNA.out.kept (Kept.of_grown' HA3.out.grown) fun g hg => ?_⟩
            · rw [HTK1.out, show trs (us ++ [(Ta.mk k2 r2 ra2 rc2 a2 l2 sa2 sc2 n2 m2 z2 i2 s2)]) = trs us ++ [(Ta.mk k2 r2 ra2 rc2 a2 l2 sa2 sc2 n2 m2 z2 i2 s2).tr] from by rw [trs_map, List.map_append, ← trs_map]; rfl]; exact HUT.out.snoc HTR.out
            · have := (HRA.out.own.lt g (by simpa using hg)).1; omega
          case measure => simp [intOf]; omega
        · obtain rfl : i = l.length := by omega
          have hlt2 : ¬ ((l.length : Int) < (l.length : Int)) := by omega
          obtain ⟨wo, rfl⟩ : ∃ wo, wo = wr := ⟨_, rfl⟩
          have HUT2 := Lib.hid (show TurnRs (trs l) (trs us) from by have := HUT.out; rwa [List.take_length] at this)
          have HM := Lib.hid (show mm = n + (q + 1) from by have := HM0.out; rw [List.take_length, ← HQ.out] at this; omega)
          have hr0 : wo.cell? ⟨w.heap.size, 0, none⟩ = some (.int .i64 k) := HNR.out.node.cell 0
          have HUL := Lib.hid hul
          have HRR := Lib.hid (show RdA wo (Sx S (w.heap.size + 2) [] wo) 2 ra r.length rc (flat r) from (HR.out.go fun b hb => HNR.out.below.block b (HSS.out b hb)).mono fun b hb => .inl hb)
          have HLE := Lib.hid (show us.length ≤ 1048576 from by omega)
          have HLO := Lib.hid (show ∀ b, Sx S (w.heap.size + 2) [] wo b → b < wo.heap.size from fun b hb => hb.elim (fun h => Nat.lt_of_lt_of_le (HSS.out b h) HNR.out.below.size) fun h => h.2.1)
          have HFAR := Lib.hid (show ∀ b, Sx S (w.heap.size + 2) [] wo b → b ≠ w.heap.size ∧ b ≠ w.heap.size + 1 from fun b hb => hb.elim (fun h => by have := HSS.out b h; omega) fun h => by have := h.1; omega)
          have HTO := Lib.hid (show ∀ b, Sx S (w.heap.size + 2) [] wo b → S b ∨ Fr (w.heap.size + 2) [] wo b from fun b hb => hb)
          clear hul
          obtain ⟨A2, c2, e2, hrt⟩ := HROW.out.done (k := k) (r := r) (ra := ra) (rc := rc) (ast := ast) (mn := mn) (mx := mx) (z := z) (ix := ix) (nm := nm) HLE.out HRR.out hrl hnm
          obtain ⟨rfl, -, rfl⟩ : A = A2 ∧ us.length = us.length ∧ c = c2 := by injection e2 with h1 h2 h3; exact ⟨h1, rfl, h3⟩
          have HRT := Lib.hid hrt
          have HNF := Lib.hid (HNR.out.set_ 3 (.slice A us.length c))
          have HK1 := Lib.hid ((Kept.setCell (w := wo) ⟨w.heap.size, 3, none⟩ (.slice A us.length c)))
          clear e2 hrt
          have fr3 := HNR.out.node.frozen 3
          have fl3 := HNR.out.node.lt
          have fc3 : wo.cell? ⟨w.heap.size, 3, none⟩ = some (.slice sa l.length sc) := HNR.out.node.cell 3
          have g0 : (wo.setCell ⟨w.heap.size, 3, none⟩ (.slice A us.length c)).cell? ⟨w.heap.size, 0, none⟩ = some (.int .i64 k) := HNF.out.node.cell 0
          have g1 : (wo.setCell ⟨w.heap.size, 3, none⟩ (.slice A us.length c)).cell? ⟨w.heap.size, 1, none⟩ = some (.slice ra r.length rc) := HNF.out.node.cell 1
          have g2 : (wo.setCell ⟨w.heap.size, 3, none⟩ (.slice A us.length c)).cell? ⟨w.heap.size, 2, none⟩ = some (.int .i64 ast) := HNF.out.node.cell 2
          have g3 : (wo.setCell ⟨w.heap.size, 3, none⟩ (.slice A us.length c)).cell? ⟨w.heap.size, 3, none⟩ = some (.slice A us.length c) := HNF.out.node.cell 3
          have g4 : (wo.setCell ⟨w.heap.size, 3, none⟩ (.slice A us.length c)).cell? ⟨w.heap.size, 4, none⟩ = some (.int .i64 mn) := HNF.out.node.cell 4
          have g5 : (wo.setCell ⟨w.heap.size, 3, none⟩ (.slice A us.length c)).cell? ⟨w.heap.size, 5, none⟩ = some (.int .i64 mx) := HNF.out.node.cell 5
          have g6 : (wo.setCell ⟨w.heap.size, 3, none⟩ (.slice A us.length c)).cell? ⟨w.heap.size, 6, none⟩ = some (.bool z) := HNF.out.node.cell 6
          have g7 : (wo.setCell ⟨w.heap.size, 3, none⟩ (.slice A us.length c)).cell? ⟨w.heap.size, 7, none⟩ = some (.int .i64 ix) := HNF.out.node.cell 7
          have g8 : (wo.setCell ⟨w.heap.size, 3, none⟩ (.slice A us.length c)).cell? ⟨w.heap.size, 8, none⟩ = some (.string nm) := HNF.out.node.cell 8
          have q0 := HNF.out.res.cell 0
          have fz0 := HNF.out.res.frozen 0
          have q1 := HNF.out.res.cell 1
          have fz1 := HNF.out.res.frozen 1
          have q2 := HNF.out.res.cell 2
          have fz2 := HNF.out.res.frozen 2
          have q3 := HNF.out.res.cell 3
          have fz3 := HNF.out.res.frozen 3
          have q4 := HNF.out.res.cell 4
          have fz4 := HNF.out.res.frozen 4
          have q5 := HNF.out.res.cell 5
          have fz5 := HNF.out.res.frozen 5
          have q6 := HNF.out.res.cell 6
          have fz6 := HNF.out.res.frozen 6
          have q7 := HNF.out.res.cell 7
          have fz7 := HNF.out.res.frozen 7
          have q8 := HNF.out.res.cell 8
          have fz8 := HNF.out.res.frozen 8
          have fz9 := HNF.out.res.lt
          simp only [List.getElem?_cons_zero, List.getElem?_cons_succ] at q0 q1 q2 q3 q4 q5 q6 q7 q8
          obtain ⟨hres, hK⟩ := HNF.out.res9 (.int .i64 k) (.slice ra r.length rc) (.int .i64 ast) (.slice A us.length c) (.int .i64 mn) (.int .i64 mx) (.bool z) (.int .i64 ix) (.string nm)
          have HRES := Lib.hid hres
          have HK := Lib.hid hK
          clear hres hK
          go_wp2_with fail
          generalize ((((((((((wo.setCell ⟨w.heap.size, 3, none⟩ (.slice A us.length c)).setCell ⟨w.heap.size + 1, 0, none⟩ (.int .i64 k)).setCell ⟨w.heap.size + 1, 1, none⟩ (.slice ra r.length rc)).setCell ⟨w.heap.size + 1, 2, none⟩ (.int .i64 ast)).setCell ⟨w.heap.size + 1, 3, none⟩ (.slice A us.length c)).setCell ⟨w.heap.size + 1, 4, none⟩ (.int .i64 mn)).setCell ⟨w.heap.size + 1, 5, none⟩ (.int .i64 mx)).setCell ⟨w.heap.size + 1, 6, none⟩ (.bool z)).setCell ⟨w.heap.size + 1, 7, none⟩ (.int .i64 ix)).setCell ⟨w.heap.size + 1, 8, none⟩ (.string nm)) = wf at *
          refine bodyPost_ret (results_pair rfl _ _ (w.heap.size + 1) (Ta.mk k r ra rc ast us A c mn mx z ix nm) rfl HRES.out) rfl ?_
          have h1 := HNR.out.res.lt
          have hk2 := HK1.out.trans HK.out
          refine ⟨Ta.mk k r ra rc ast us A c mn mx z ix nm, by have := HM.out; exact congrArg (fun z => Ending.returned (.tuple #[_, Value.int .i64 z])) (by show (mm : Int) = _; omega), by rw [HT.out, Ta.tr]; exact .mk HUT2.out (.inl rfl) (.inl rfl), ?_, Below.kept HNR.out.below hk2 (by intro b hb; simp at hb; omega) HNR.out.below.size⟩
          refine ((HRT.out.go fun b hb => hk2.block b (HLO.out b hb) fun hm => ?_).mono fun b hb => ?_)
          · have := HFAR.out b hb; simp only [List.cons_append, List.nil_append, List.append_assoc, List.mem_cons, List.not_mem_nil, or_false] at hm; omega
          · exact (HTO.out b hb).imp id fun hb => ⟨by have := hb.1; omega, Nat.lt_of_lt_of_le hb.2.1 hk2.size, by simp⟩
end Go.Proofs.Ytjeljlgjkjeloaa
